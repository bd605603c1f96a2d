/- Proof text of this claim, part 1: Slicing, make, append.. Its conditions are those of the statement: the laid tables as the row lists them. -/
import Derived.Test.YtjlcojgimicfbaaDoorF0
import Derived.MapKept
/- Slicing, make, append. -/
namespace Go.Am
variable {Γ : Nat → Option Obj} {P : Program}

theorem not_array {t e : TypeId} (hu : P.underlying t = some (.slice e)) (x : Value) (lo hi mx : Option Value) (w : World) : (Instr.sliceAt t x lo hi mx).run P w = (Instr.slice t x lo hi mx).run P w := by
  simp only [Instr.sliceAt, Sem.run_bind, run_underlying hu, Result.andThen]

theorem run_slice {t e : TypeId} {s : Nat} (hu : P.underlying t = some (.slice e)) (hs : tsz P e = some s) {a : Option Addr} {len cap l h : Nat} {lo hi mx : Option Int} (hb : bnds len lo hi mx l h) (hc : len ≤ cap)
    (klo khi kmx : IntKind) (w : World) : (Instr.sliceAt t (.slice a len cap) (lo.map (Value.int klo)) (hi.map (Value.int khi)) (mx.map (Value.int kmx))).run P w =
      .ok (.slice (if mcap cap h mx = l then a else a.map (·.add (l * s))) (h - l) (mcap cap h mx - l)) w := by
  rw [not_array hu]
  simp only [Instr.slice, Sem.run_bind, run_underlying hu, Result.andThen, run_sliceBounds hb hc, run_sizeOf hs, Sem.run_pure]

theorem opts {A : Nat → PV} {a : Act} {o : Oper} {w : World} {O : Nat → Prop} {μ : Nat → Mu} (ht : ∀ t, Operand.tmp t ∈ o.op.operands.toList → Rep w O μ (A t) (a.tmps.getD t undef)) {x : Option Operand} {r : Option Int}
    (hx : ∀ y, x = some y → y ∈ o.op.operands.toList) (h : optI A x = some r) : ∃ k, x.map a.eval = r.map (Value.int k) := by
  cases x with
  | none => simp [optI] at h; subst h; exact ⟨.i64, rfl⟩
  | some y =>
    simp only [optI] at h
    split at h
    · rename_i k n hy
      cases h
      exact ⟨k, by simp [ev_of_v ht (hx y rfl) hy]⟩
    · cases h

theorem ok_slice_sl {o : Oper} {A : Nat → PV} {t : TypeId} {x : Operand} {lo hi mx : Option Operand} {s l h : Nat} {full : Bool} {rows : List (List PV)} {lo' hi' mx' : Option Int} (ho : o.op = .slice t x lo hi mx)
    (hx : ev A x = .sl full rows) (hs : sel P t = some s) (h1 : optI A lo = some lo') (h2 : optI A hi = some hi') (h3 : optI A mx = some mx') (hb : bnds rows.length lo' hi' mx' l h)
    (hrow : ∀ r ∈ rows.head?, r.length = s) :
    OpOK Γ P o A ⟨.sl (mx'.isSome || full && hi'.isNone) ((rows.drop l).take (h - l)), [], []⟩ :=
  .value fun F μ σ a w _ ht _ => by
    have e1 := ev_of ht (x := x) (by rw [ho]; simp [Op.operands])
    rw [hx] at e1
    obtain ⟨e, hu, hse⟩ := sel_spec hs
    obtain ⟨k1, q1⟩ := opts ht (x := lo) (fun y hy => by rw [ho, hy]; simp [Op.operands]) h1
    obtain ⟨k2, q2⟩ := opts ht (x := hi) (fun y hy => by rw [ho, hy]; simp [Op.operands]) h2
    obtain ⟨k3, q3⟩ := opts ht (x := mx) (fun y hy => by rw [ho, hy]; simp [Op.operands]) h3
    have hb' := hb
    obtain ⟨b1, b2, b3, b4, b5⟩ := hb'
    have hrun : ∀ (ad : Option Addr) (cap : Nat), a.eval x = .slice ad rows.length cap → rows.length ≤ cap →
        (execOp a.eval o).run P w = .ok (.value (.slice (if mcap cap h mx' = l then ad else ad.map (·.add (l * s))) (h - l) (mcap cap h mx' - l))) w := by
      intro ad cap he hc
      simp only [execOp, ho, he, q1, q2, q3]
      rw [Sem.run_bind, run_slice hu hse hb hc]; rfl
    have hcapf : ∀ cap, (full = true → cap = rows.length) → (mx'.isSome || full && hi'.isNone) = true → mcap cap h mx' - l = h - l := by
      intro cap hf hq
      cases mx' with
      | some m => rfl
      | none =>
        simp only [Option.isSome_none, Bool.false_or, Bool.and_eq_true, Option.isNone_iff_eq_none] at hq
        obtain ⟨hq1, hq2⟩ := hq
        subst hq2
        simp only at b2
        simp only [hf hq1, b2, mcap]
    generalize hz : a.eval x = z at e1
    cases e1 with
    | pure h' => cases h' with
      | nil _ ad cap hf =>
        refine ⟨_, hrun ad cap (by simpa using hz) (Nat.zero_le _), .pure ?_⟩
        have : h = 0 := by simpa using b5
        subst this
        have hl : l = 0 := by omega
        subst hl
        simp only [List.drop_nil, List.take_nil, Nat.sub_self]
        exact .nil _ _ _ fun hq => hcapf cap (by simpa using hf) hq
      | sl _ _ sz b off cap vs hsz hcap hlen hf hO hb0 hc hr =>
        refine ⟨_, hrun _ cap hz hcap, .pure ?_⟩
        by_cases hlh : h = l
        · subst hlh
          simp only [Nat.sub_self, List.take_zero]
          exact .nil _ _ _ fun hq => by have := hcapf cap hf hq; simpa using this
        · have hne : ¬ mcap cap h mx' = l := by cases mx' <;> simp only [mcap] <;> omega
          rw [if_neg hne]
          have hszs : sz = s := by
            cases rows with
            | nil => simp at b5; omega
            | cons r rs => rw [← hrow r (by simp)]; exact (hsz r (List.mem_cons_self ..)).symm
          subst hszs
          simp only [Option.map_some, addr_add]
          have hlen' : ((rows.drop l).take (h - l)).length = h - l := by simp; omega
          have get : ∀ i r, ((rows.drop l).take (h - l))[i]? = some r → rows[l + i]? = some r := fun i r hi => by
            rw [List.getElem?_take] at hi
            split at hi
            · rw [List.getElem?_drop] at hi; exact hi
            · cases hi
          have := PRep.sl (w := w) (O := OwnF F μ σ) (mx'.isSome || full && hi'.isNone) ((rows.drop l).take (h - l)) sz b (off + l * sz) (mcap cap h mx' - l) (fun i j => vs (l + i) j)
            (fun r hr => hsz r (List.mem_of_mem_drop (List.mem_of_mem_take hr))) (by rw [hlen']; cases mx' <;> simp only [mcap] <;> omega) (by rw [hlen']; omega) (fun hq => by rw [hlen']; exact hcapf cap hf hq) hO hb0
            (fun i r j p g1 g2 => by
              have := hc (l + i) r j p (get i r g1) g2
              rw [Nat.add_mul] at this
              rw [← this]; congr 2; omega) (fun i r j p g1 g2 => hr (l + i) r j p (get i r g1) g2)
          rw [hlen'] at this
          exact this

/-- An array of one-cell elements, from its begin. -/
theorem ok_slice_array {o : Oper} {A : Nat → PV} {t : TypeId} {x : Operand} {hi : Option Operand} {n h sz b j off : Nat} {hi' : Option Int} (ho : o.op = .slice t x none hi none)
    (hx : ev A x = .op sz b j off) (hs : ael P t = some (n, 1)) (h2 : optI A hi = some hi') (hb : bnds n none hi' none 0 h) (hn : n ≠ 0) (hn1 : n ≤ 1048576) :
    OpOK Γ P o A ⟨.oa sz b j off h, [], []⟩ :=
  .value fun F μ σ a w _ ht _ => by
    have e1 := ev_of ht (x := x) (by rw [ho]; simp [Op.operands])
    rw [hx] at e1
    obtain ⟨e, hu, hse⟩ := ael_spec hs
    obtain ⟨k2, q2⟩ := opts ht (x := hi) (fun y hy => by rw [ho, hy]; simp [Op.operands]) h2
    generalize hz : a.eval x = z at e1
    cases e1 with
    | pure h' => cases h'
    | op _ _ _ _ bb hm =>
      refine ⟨.slice (some ⟨bb, j * sz + off, none⟩) h n, ?_, .oa sz b j off h bb n hm hb.2.2.2.2 (by have := hb.2.2.2.2; omega)⟩
      simp only [execOp, ho, hz, q2, Option.map_none, Instr.sliceAt, Instr.sureAddr]
      have hb' := run_sliceBounds (P := P) (isS := false) (cap := n) hb (Nat.le_refl _) .i64 k2 .i64 w
      simp only [Option.map_none] at hb'
      simp only [Sem.run_bind, run_underlying hu, Result.andThen, Sem.run_pure, hb', run_sizeOf hse]
      rw [if_neg (by simpa [mcap] using hn)]
      simp [addr_add, mcap]

theorem ok_slice_os {o : Oper} {A : Nat → PV} {t : TypeId} {x : Operand} {hi mx : Option Operand} {h sz b j n : Nat} {hi' mx' : Option Int} (ho : o.op = .slice t x none hi mx)
    (hx : ev A x = .os sz b j n) (hs : sel P t = some sz) (h2 : optI A hi = some hi') (h3 : optI A mx = some mx') (hb : bnds n none hi' mx' 0 h) :
    OpOK Γ P o A ⟨.os sz b j h, [], []⟩ :=
  .value fun F μ σ a w _ ht _ => by
    have e1 := ev_of ht (x := x) (by rw [ho]; simp [Op.operands])
    rw [hx] at e1
    obtain ⟨e, hu, hse⟩ := sel_spec hs
    obtain ⟨k2, q2⟩ := opts ht (x := hi) (fun y hy => by rw [ho, hy]; simp [Op.operands]) h2
    obtain ⟨k3, q3⟩ := opts ht (x := mx) (fun y hy => by rw [ho, hy]; simp [Op.operands]) h3
    generalize hz : a.eval x = z at e1
    have hn5 := hb.2.2.2.2
    cases e1 with
    | pure h' => cases h'
    | os _ _ _ _ bb cap hm hn hlen hsh =>
      refine ⟨.slice (some ⟨bb, j * sz, none⟩) h (mcap cap h mx'), ?_, ?_⟩
      · simp only [execOp, ho, hz, q2, q3, Option.map_none]
        have := run_slice hu hse (a := some ⟨bb, j * sz, none⟩) hb hn .i64 k2 k3 w
        simp only [Option.map_none] at this
        rw [Sem.run_bind, this]
        simp only [Nat.zero_mul, Option.map_some, addr_add, Nat.add_zero, Nat.sub_zero, ite_self]
        rfl
      · obtain ⟨ty, m, hsh1, hsh2⟩ := hsh
        refine .os sz b j h bb _ hm (by cases mx' <;> simp only [mcap] <;> omega) (by omega) ⟨ty, m, hsh1, Nat.le_trans (Nat.mul_le_mul_right _ ?_) hsh2⟩
        cases mx' <;> simp only [mcap] <;> omega
    | ph _ _ ad hm =>
      have : h = 0 := by omega
      subst this
      refine ⟨.slice ad 0 0, ?_, .ph sz b ad hm⟩
      simp only [execOp, ho, hz, q2, q3, Option.map_none]
      have := run_slice hu hse (a := ad) (cap := 0) hb (Nat.le_refl _) .i64 k2 k3 w
      simp only [Option.map_none] at this
      rw [Sem.run_bind, this]
      cases mx' <;> simp [Result.andThen, mcap]

/-! ### make -/
def tby (P : Program) (t : TypeId) : Option Nat := (P.info? t).map (·.bytes)

theorem run_bytes {t : TypeId} {n : Nat} (h : tby P t = some n) (w : World) : ∃ i, (typeInfo t).run P w = .ok i w ∧ i.bytes = n := by
  simp only [tby, Option.map_eq_some_iff] at h
  obtain ⟨i, hi, rfl⟩ := h
  exact ⟨i, run_typeInfo hi w, rfl⟩

theorem wrap_i64 {n : Int} (h0 : -9223372036854775808 ≤ n) (h1 : n ≤ 9223372036854775807) : IntKind.i64.wrap n = n := by
  simp only [IntKind.wrap_i64]; omega

theorem run_askRoom (n : Nat) (w : World) : (askRoom n).run P w = .ok () w := by
  unfold askRoom
  split
  · rfl
  · rfl

theorem zfill_chunk (zs : List PV) (n : Nat) : chunk zs.length n (zfill zs n) = List.replicate n zs := by
  induction n with
  | zero => rfl
  | succ n ih => simp [chunk, zfill, List.replicate_succ, ih]

theorem ok_makeSlice {o : Oper} {A : Nat → PV} {t e : TypeId} {x y : Operand} {k k' : IntKind} {n : Int} {sz by' nx : Nat} {zs : List PV} (ho : o.op = .makeSlice t x y) (hx : ev A x = .v (.int k n)) (hy : ev A y = .v (.int k' n))
    (hu : P.underlying t = some (.slice e)) (hs : tsz P e = some sz) (hby : tby P e = some by') (hz : tzero P e = some zs) (hzl : zs.length = sz) (h0 : 0 ≤ n) (hb : by' ≤ 1024) (hn : n ≤ 137438953472) :
    OpOK Γ P o A ⟨.os sz nx 0 n.toNat, [(nx, .fresh)], [(nx, .live (.rows sz (List.replicate n.toNat zs)))]⟩ := by
  intro F μ σ a w hsr ht hrd
  have hf : σ nx = .fresh := hrd (nx, .fresh) (List.mem_cons_self ..)
  have e1 := ev_of_v ht (x := x) (by rw [ho]; simp [Op.operands]) hx
  have e2 := ev_of_v ht (x := y) (by rw [ho]; simp [Op.operands]) hy
  simp only [tzero, Option.map_eq_some_iff] at hz
  obtain ⟨z, hz, rfl⟩ := hz
  simp only [List.length_map, Array.length_toList] at hzl
  subst hzl
  obtain ⟨N, rfl⟩ : ∃ N : Nat, n = (N : Int) := ⟨n.toNat, by omega⟩
  obtain ⟨i, hi, hib⟩ := run_bytes hby w
  have hw : IntKind.i64.wrap (N : Int) = N := wrap_i64 (by omega) (by omega)
  have hprod : by' * N ≤ 281474976710656 := by
    have h1 : by' * N ≤ 1024 * N := Nat.mul_le_mul_right _ hb
    omega
  let c : Array Value := (Array.range (N * z.cells.size)).map fun k => z.cells[k % z.cells.size]!
  have hrun : (execOp a.eval o).run P w = .ok (.value (.slice (some ⟨w.heap.size, 0, none⟩) N N)) (pushW w (.cells c e)) := by
    simp only [execOp, ho, e1, e2, Instr.makeSlice]
    rw [Sem.run_bind]
    simp only [Sem.run_bind, run_underlying hu, Result.andThen, asInt, asIntOf, Sem.run_pure, hi, hw, hib]
    rw [if_neg (by
      have h1 : ((by' * N : Nat) : Int) ≤ 281474976710656 := Int.ofNat_le.2 hprod
      rw [Int.natCast_mul] at h1
      have h2 : ((2 : Int) ^ 48) = 281474976710656 := by decide
      simp only [Bool.or_eq_true, decide_eq_true_eq, h2]
      omega)]
    simp only [Sem.run_bind, run_askRoom, Result.andThen, run_sizeOf hs, Int.toNat_natCast]
    by_cases h0 : N * z.cells.size = 0
    · have e2 : ∀ f : Nat → Value, (Array.range 0).map f = #[] := fun f => by simp
      have : c = #[] := by simp only [c, h0]; exact e2 _
      rw [this]
      simp only [h0, if_true, e2]
      rfl
    · simp only [h0, if_false, Sem.run_bind, run_zeroValue hz, Result.andThen, Sem.run_pure]
      rfl
  rw [hrun]
  have hcs : c.size = N * z.cells.size := by simp [c]
  have hB : BRep (pushW w (.cells c e)) (OwnF F (upd μ nx (.at w.heap.size)) (upd σ nx (.live (.rows z.cells.size (List.replicate (N : Int).toNat (z.cells.toList.map constCell)))))) (upd μ nx (.at w.heap.size))
      (.rows z.cells.size (List.replicate (N : Int).toNat (z.cells.toList.map constCell))) (.at w.heap.size) := by
    simp only [Int.toNat_natCast]
    refine ⟨c, e, 0, 0, pushW_new, Nat.le_refl _, by simp [hcs], fun r hr => by rw [(List.mem_replicate.1 hr).2]; simp, fun i r j p g1 g2 => ?_⟩
    have hi : i < N := by have := (List.getElem?_eq_some_iff.1 g1).1; simpa using this
    have hr : r = z.cells.toList.map constCell := by rw [List.getElem?_replicate] at g1; simp [hi] at g1; exact g1.symm
    subst hr
    have hj : j < z.cells.size := by have := (List.getElem?_eq_some_iff.1 g2).1; simpa using this
    have hlt : i * z.cells.size + j < c.size := by
      have : (i + 1) * z.cells.size ≤ N * z.cells.size := Nat.mul_le_mul_right _ hi
      rw [Nat.add_mul] at this
      omega
    refine ⟨c[i * z.cells.size + j], by simp [hlt], ?_⟩
    refine zero_cells (z := z.cells) (n := N) (i * z.cells.size + j) p _ ?_ (by rw [Array.getElem?_eq_getElem (by simpa [c] using hlt)])
    rw [zfill_get _ _ _ (by simpa [hcs] using hlt)]
    simp only [List.length_map, Array.length_toList]
    rw [show (i * z.cells.size + j) % z.cells.size = j from by rw [Nat.mul_comm, Nat.mul_add_mod]; exact Nat.mod_eq_of_lt hj]
    exact g2
  obtain ⟨k1, k2, k3⟩ := srel_new hsr hf hB
  refine ⟨_, k1, ?_, k2, k3⟩
  have := rep_os0 (w := pushW w (.cells c e)) (O := OwnF F (upd μ nx (.at w.heap.size)) (upd σ nx (.live (.rows z.cells.size (List.replicate (N : Int).toNat (z.cells.toList.map constCell)))))) (sz := z.cells.size) (upd_same μ nx (.at w.heap.size)) (Nat.le_refl N) (by omega)
    ⟨e, c.size, by simp only [World.shape?, pushW_new], by rw [hcs]; exact Nat.le_refl _⟩
  simp only [Int.toNat_natCast] at this ⊢
  exact this

end Go.Am
/- append. -/
namespace Go.Am
variable {Γ : Nat → Option Obj} {P : Program}

/-- The elements of a slice. -/
def srcRows (σ : Nat → Slot) : PV → Option (List (List PV))
  | .sl _ rows => some rows
  | .os sz t i n => match σ t with
    | .live (.rows sz' rs) => if sz' = sz ∧ i + n ≤ rs.length then some ((rs.drop i).take n) else none
    | _ => none
  | .oa sz t i off n => match σ t with
    | .live (.rows sz' rs) => match rs[i]? with
      | some row => if sz' = sz ∧ off + n ≤ row.length then some (((row.drop off).take n).map fun p => [p]) else none
      | none => none
    | _ => none
  | _ => none

/-- The blocks that are read for it. -/
def srcIds : PV → List Nat
  | .os _ t _ _ => [t]
  | .oa _ t _ _ _ => [t]
  | _ => []

theorem src_spec {F : Nat → Prop} {μ : Nat → Mu} {σ : Nat → Slot} {w : World} (hs : SRel Γ F w μ σ) {p : PV} {y : Value} (h : Rep w (OwnF F μ σ) μ p y) {rows : List (List PV)} (hr : srcRows σ p = some rows) {size : Nat}
    (hsz : ∀ r ∈ rows, r.length = size) : ∃ a cap, ∃ cells : Array Value, y = .slice a rows.length cap ∧ rows.length ≤ 140737488355328 ∧ (Builtin.firstCells size rows.length y).run P w = .ok cells w ∧ cells.size = rows.length * size ∧
      ∀ (i : Nat) r (j : Nat) q, rows[i]? = some r → r[j]? = some q → ∃ z, cells[i * size + j]? = some z ∧ Rep w (OwnF F μ σ) μ q z := by
  have none0 : ∀ (a : Option Addr) (cap : Nat), (Builtin.firstCells size 0 (.slice a 0 cap)).run P w = .ok #[] w := fun a cap => by
    cases a with
    | none => simp [Builtin.firstCells]
    | some b => simp [Builtin.firstCells, loadCells, loadCellsFrom]
  cases p with
  | sl full rows' =>
    simp only [srcRows, Option.some.injEq] at hr
    subst hr
    cases h with
    | pure h => cases h with
      | nil _ a cap _ => exact ⟨a, cap, #[], rfl, Nat.zero_le _, none0 a cap, by simp, fun i r j q h1 => by simp at h1⟩
      | sl _ _ sz b off cap vs hsz' hcap hlen hf hO hb hc hr =>
        have heq : rows' = [] ∨ sz = size := by
          cases rows' with
          | nil => exact .inl rfl
          | cons r rs => exact .inr ((hsz' r (List.mem_cons_self ..)).symm.trans (hsz r (List.mem_cons_self ..)))
        rcases heq with rfl | rfl
        · exact ⟨_, cap, #[], rfl, Nat.zero_le _, none0 _ cap, by simp, fun i r j q h1 => by simp at h1⟩
        · let f : Nat → Value := fun k => vs (k / sz) (k % sz)
          have hcell : ∀ k, k < rows'.length * sz → w.cell? ((⟨b, off, none⟩ : Addr).add k) = some (f k) := fun k hk => by
            have hsz0 : 0 < sz := by rcases Nat.eq_zero_or_pos sz with h | h; (rw [h] at hk; simp at hk); exact h
            have hi : k / sz < rows'.length := by rw [Nat.div_lt_iff_lt_mul hsz0]; exact hk
            have hj : k % sz < sz := Nat.mod_lt _ hsz0
            have hrow : (rows'[k / sz]).length = sz := hsz' _ (List.getElem_mem _)
            rw [addr_add]
            have := hc (k / sz) rows'[k / sz] (k % sz) (rows'[k / sz][k % sz]'(by omega)) (by simp) (by simp)
            rw [show off + k = off + (k / sz * sz + k % sz) from by rw [Nat.div_add_mod' k sz]]
            exact this
          refine ⟨_, cap, ((List.range (rows'.length * sz)).map f).toArray, rfl, hlen, ?_, by simp, fun i r j q h1 h2 => ?_⟩
          · simp only [Builtin.firstCells]
            exact run_loadCells w _ _ f hcell
          · have hi : i < rows'.length := (List.getElem?_eq_some_iff.1 h1).1
            have hrl : r.length = sz := hsz r (List.mem_of_getElem? h1)
            have hj : j < sz := by rw [← hrl]; exact (List.getElem?_eq_some_iff.1 h2).1
            have hlt : i * sz + j < rows'.length * sz := by
              have : (i + 1) * sz ≤ rows'.length * sz := Nat.mul_le_mul_right _ hi
              rw [Nat.add_mul] at this; omega
            refine ⟨vs i j, ?_, .pure (hr i r j q h1 h2)⟩
            simp only [List.getElem?_toArray, List.getElem?_map, List.getElem?_range hlt, Option.map_some, f]
            congr 2
            · rw [Nat.mul_comm, Nat.mul_add_div (by omega), Nat.div_eq_of_lt hj, Nat.add_zero]
            · rw [Nat.mul_comm, Nat.mul_add_mod, Nat.mod_eq_of_lt hj]
  | os sz t i n =>
    simp only [srcRows] at hr
    split at hr
    · rename_i sz' rs hσ
      split at hr
      · rename_i hc
        obtain ⟨rfl, hin⟩ := hc
        simp only [Option.some.injEq] at hr
        subst hr
        have hrl : ((rs.drop i).take n).length = n := by simp; omega
        cases h with
        | pure h => cases h
        | os _ _ _ _ b cap hm hn hlen _ =>
          have hB := hs.live t _ hσ
          rw [hm] at hB
          obtain ⟨c, ty, lo, hi, e1, e2, e3, e4, e5⟩ := hB
          have get : ∀ k r, ((rs.drop i).take n)[k]? = some r → rs[i + k]? = some r := fun k r hk => by
            rw [List.getElem?_take] at hk
            split at hk
            · rw [List.getElem?_drop] at hk; exact hk
            · cases hk
          have heq : n = 0 ∨ sz' = size := by
            rcases Nat.eq_zero_or_pos n with h | h
            · exact .inl h
            · have h1 : ((rs.drop i).take n)[0]? = some rs[i] := by rw [List.getElem?_take, if_pos h, List.getElem?_drop]; simp
              exact .inr ((e4 _ (List.getElem_mem _)).symm.trans (hsz _ (List.mem_of_getElem? h1)))
          rcases heq with rfl | rfl
          · refine ⟨some ⟨b, i * sz', none⟩, cap, #[], by simp, by simp, ?_, by simp, fun i r j q h1 => by simp at h1⟩
            simp only [List.take_zero, List.length_nil]; exact none0 _ cap
          · have hfit : i * sz' + n * sz' ≤ c.size := by
              have : (i + n) * sz' ≤ rs.length * sz' := Nat.mul_le_mul_right _ hin
              rw [Nat.add_mul] at this; omega
            refine ⟨_, cap, c.extract (i * sz') (i * sz' + n * sz'), by rw [hrl], by rw [hrl]; exact hlen, ?_, ?_, fun k r j q h1 h2 => ?_⟩
            · rw [hrl]; simp only [Builtin.firstCells]; exact run_loadArr e1 hfit
            · rw [hrl]; simp; omega
            · have hk : k < n := by rw [← hrl]; exact (List.getElem?_eq_some_iff.1 h1).1
              have hrl' : r.length = sz' := hsz r (List.mem_of_getElem? h1)
              have hj : j < sz' := by rw [← hrl']; exact (List.getElem?_eq_some_iff.1 h2).1
              obtain ⟨z, hz1, hz2⟩ := e5 (i + k) r j q (get k r h1) h2
              refine ⟨z, ?_, hz2⟩
              have hlt : k * sz' + j < n * sz' := by
                have : (k + 1) * sz' ≤ n * sz' := Nat.mul_le_mul_right _ hk
                rw [Nat.add_mul] at this; omega
              rw [Array.getElem?_extract, if_pos (by omega), ← hz1, Nat.add_mul, Nat.add_assoc]
        | ph _ _ a hm =>
          refine ⟨a, 0, #[], by simp, by simp, ?_, by simp, fun i r j q h1 => by simp at h1⟩
          simp only [List.take_zero, List.length_nil]; exact none0 _ 0
      · cases hr
    · cases hr
  | oa sz t i off n =>
    simp only [srcRows] at hr
    split at hr
    · rename_i sz' rs hσ
      split at hr
      · rename_i row hrow
        split at hr
        · rename_i hc
          obtain ⟨rfl, hin⟩ := hc
          simp only [Option.some.injEq] at hr
          subst hr
          have hrl : (((row.drop off).take n).map fun p => [p]).length = n := by simp; omega
          cases h with
          | pure h => cases h
          | oa _ _ _ _ _ b cap hm hn hlen =>
            have hB := hs.live t _ hσ
            rw [hm] at hB
            obtain ⟨c, ty, lo, hi, e1, e2, e3, e4, e5⟩ := hB
            have hi' : i < rs.length := (List.getElem?_eq_some_iff.1 hrow).1
            have hrow' : row.length = sz' := e4 row (List.mem_of_getElem? hrow)
            have hfit : i * sz' + off + n ≤ c.size := by
              have : (i + 1) * sz' ≤ rs.length * sz' := Nat.mul_le_mul_right _ hi'
              rw [Nat.add_mul] at this; omega
            have get : ∀ k r, (((row.drop off).take n).map fun p => [p])[k]? = some r → ∃ p, row[off + k]? = some p ∧ r = [p] ∧ k < n := fun k r hk => by
              have hkn : k < n := by rw [← hrl]; exact (List.getElem?_eq_some_iff.1 hk).1
              rw [List.getElem?_map, List.getElem?_take, if_pos hkn, List.getElem?_drop] at hk
              cases hq : row[off + k]? with
              | none => simp [hq] at hk
              | some p => simp [hq] at hk; exact ⟨p, rfl, hk.symm, hkn⟩
            have heq : n = 0 ∨ size = 1 := by
              rcases Nat.eq_zero_or_pos n with h | h
              · exact .inl h
              · have h1 : (((row.drop off).take n).map fun p => [p])[0]? = some [row[off]'(by omega)] := by
                  rw [List.getElem?_map, List.getElem?_take, if_pos h, List.getElem?_drop]; simp [show off < row.length from by omega]
                exact .inr (hsz _ (List.mem_of_getElem? h1)).symm
            rcases heq with rfl | rfl
            · refine ⟨some ⟨b, i * sz' + off, none⟩, cap, #[], by simp, by simp, ?_, by simp, fun i r j q h1 => by simp at h1⟩
              simp only [List.take_zero, List.map_nil, List.length_nil]; exact none0 _ cap
            · refine ⟨some ⟨b, i * sz' + off, none⟩, cap, c.extract (i * sz' + off) (i * sz' + off + n), by rw [hrl], by rw [hrl]; exact hlen, ?_, ?_, fun k r j q h1 h2 => ?_⟩
              · rw [hrl]; simp only [Builtin.firstCells, Nat.mul_one]; exact run_loadArr e1 hfit
              · rw [hrl]; simp; omega
              · obtain ⟨p, hp, rfl, hkn⟩ := get k r h1
                have hj : j = 0 := by have := (List.getElem?_eq_some_iff.1 h2).1; simp at this; exact this
                subst hj
                simp at h2
                subst h2
                obtain ⟨z, hz1, hz2⟩ := e5 i row (off + k) p hrow hp
                exact ⟨z, by rw [Array.getElem?_extract, if_pos (by omega), ← hz1]; congr 1; omega, hz2⟩
        · cases hr
      · cases hr
    · cases hr
  | _ => simp [srcRows] at hr

end Go.Am
/- append, carried out. -/
namespace Go.Am
variable {Γ : Nat → Option Obj} {P : Program}

theorem keeps_sub {w : World} {O O' : Nat → Prop} (h : ∀ b, O' b → O b) : Keeps w O w O' := ⟨Nat.le_refl _, fun b _ hb => ⟨rfl, fun h' => hb (h b h')⟩⟩

/-- A block is let go. -/
theorem srel_kill {F : Nat → Prop} {μ : Nat → Mu} {σ : Nat → Slot} {w : World} (h : SRel Γ F w μ σ) {t : Nat} (ht : σ t ≠ .fresh) :
    SRel Γ F w μ (upd σ t .dead) ∧ Ext w (Own μ σ) w (Own μ (upd σ t .dead)) ∧ (∀ b, OwnF F μ (upd σ t .dead) b → OwnF F μ σ b) := by
  have hown : ∀ b, Own μ (upd σ t .dead) b → Own μ σ b := by
    rintro b ⟨u, B, hu, hm⟩
    by_cases e : u = t
    · subst e; rw [upd_same] at hu; cases hu
    · rw [upd_ne _ _ e] at hu; exact ⟨u, B, hu, hm⟩
  have hO : ∀ b, OwnF F μ (upd σ t .dead) b → OwnF F μ σ b := fun b hb => hb.imp id (hown b)
  have back : ∀ u B, upd σ t .dead u = .live B → σ u = .live B := fun u B hu => by
    by_cases e : u = t
    · subst e; rw [upd_same] at hu; cases hu
    · rwa [upd_ne _ _ e] at hu
  refine ⟨⟨fun u hu => ?_, fun u B hu => brep_keep (keeps_sub hO) (fun _ _ => rfl) (MuExt.refl _) (fun _ _ => rfl) (h.live u B (back u B hu)), fun u v B B' b hu hv => h.inj u v B B' b (back u B hu) (back v B' hv),
    fun u B b hu => h.notF u B b (back u B hu), h.ffin, fun b o hb => ⟨(h.gam b o hb).1, fun h' => (h.gam b o hb).2 (hO b h')⟩⟩, ⟨Nat.le_refl _, fun b _ hb => ⟨rfl, fun h' => hb (hown b h')⟩, fun _ _ => rfl, rfl, rfl⟩, hO⟩
  by_cases e : u = t
  · subst e; rw [upd_same] at hu; cases hu
  · rw [upd_ne _ _ e] at hu; exact h.fresh u hu

/-- A block under a new number. -/
theorem srel_rename {F : Nat → Prop} {μ : Nat → Mu} {σ : Nat → Slot} {w : World} (h : SRel Γ F w μ σ) {t nx : Nat} {B : Blk} (ht : σ t = .live B) (hf : σ nx = .fresh) :
    SRel Γ F w (upd μ nx (μ t)) (upd (upd σ t .dead) nx (.live B)) ∧ Ext w (Own μ σ) w (Own (upd μ nx (μ t)) (upd (upd σ t .dead) nx (.live B))) ∧ MuExt μ (upd μ nx (μ t)) ∧
      (∀ b, OwnF F (upd μ nx (μ t)) (upd (upd σ t .dead) nx (.live B)) b → OwnF F μ σ b) := by
  have hne : nx ≠ t := fun e => by rw [e, ht] at hf; cases hf
  have hno := h.fresh nx hf
  have hme : MuExt μ (upd μ nx (μ t)) := fun u hu => upd_ne _ _ fun e => hu (by rw [e]; exact hno)
  have back : ∀ u B', upd (upd σ t .dead) nx (.live B) u = .live B' → (u = nx ∧ B' = B) ∨ (u ≠ nx ∧ u ≠ t ∧ σ u = .live B') := fun u B' hu => by
    by_cases e : u = nx
    · subst e; rw [upd_same] at hu; cases hu; exact .inl ⟨rfl, rfl⟩
    · rw [upd_ne _ _ e] at hu
      by_cases e' : u = t
      · subst e'; rw [upd_same] at hu; cases hu
      · rw [upd_ne _ _ e'] at hu; exact .inr ⟨e, e', hu⟩
  have hown : ∀ b, Own (upd μ nx (μ t)) (upd (upd σ t .dead) nx (.live B)) b → Own μ σ b := by
    rintro b ⟨u, B', hu, hm⟩
    rcases back u B' hu with ⟨rfl, rfl⟩ | ⟨e1, e2, hu'⟩
    · rw [upd_same] at hm; exact ⟨t, _, ht, hm⟩
    · rw [upd_ne _ _ e1] at hm; exact ⟨u, B', hu', hm⟩
  have hO : ∀ b, OwnF F (upd μ nx (μ t)) (upd (upd σ t .dead) nx (.live B)) b → OwnF F μ σ b := fun b hb => hb.imp id (hown b)
  refine ⟨⟨fun u hu => ?_, fun u B' hu => ?_, ?_, ?_, h.ffin, fun b o hb => ⟨(h.gam b o hb).1, fun h' => (h.gam b o hb).2 (hO b h')⟩⟩, ⟨Nat.le_refl _, fun b _ hb => ⟨rfl, fun h' => hb (hown b h')⟩, fun _ _ => rfl, rfl, rfl⟩, hme, hO⟩
  · by_cases e : u = nx
    · subst e; rw [upd_same] at hu; cases hu
    · rw [upd_ne _ _ e] at hu ⊢
      by_cases e' : u = t
      · subst e'; rw [upd_same] at hu; cases hu
      · rw [upd_ne _ _ e'] at hu; exact h.fresh u hu
  · rcases back u B' hu with ⟨rfl, rfl⟩ | ⟨e1, e2, hu'⟩
    · rw [upd_same]
      exact brep_keep (keeps_sub hO) (fun _ _ => rfl) hme (fun _ _ => rfl) (h.live t _ ht)
    · rw [upd_ne _ _ e1]
      exact brep_keep (keeps_sub hO) (fun _ _ => rfl) hme (fun _ _ => rfl) (h.live u B' hu')
  · intro u v B1 B2 b hu hv h1 h2
    rcases back u B1 hu with ⟨rfl, rfl⟩ | ⟨e1, e2, hu'⟩ <;> rcases back v B2 hv with ⟨rfl, rfl⟩ | ⟨e3, e4, hv'⟩
    · rfl
    · rw [upd_same] at h1; rw [upd_ne _ _ e3] at h2; exact absurd (h.inj v t _ _ b hv' ht h2 h1) e4
    · rw [upd_same] at h2; rw [upd_ne _ _ e1] at h1; exact absurd (h.inj u t _ _ b hu' ht h1 h2) e2
    · rw [upd_ne _ _ e1] at h1; rw [upd_ne _ _ e3] at h2; exact h.inj u v _ _ b hu' hv' h1 h2
  · intro u B' b hu hm
    rcases back u B' hu with ⟨rfl, rfl⟩ | ⟨e1, e2, hu'⟩
    · rw [upd_same] at hm; exact h.notF t _ b ht hm
    · rw [upd_ne _ _ e1] at hm; exact h.notF u B' b hu' hm

/-- A block that isn't there yet. -/
theorem srel_ph {F : Nat → Prop} {μ : Nat → Mu} {σ : Nat → Slot} {w : World} (h : SRel Γ F w μ σ) {nx sz : Nat} (hf : σ nx = .fresh) :
    SRel Γ F w (upd μ nx .ph) (upd σ nx (.live (.rows sz []))) ∧ Ext w (Own μ σ) w (Own (upd μ nx .ph) (upd σ nx (.live (.rows sz [])))) ∧ MuExt μ (upd μ nx .ph) ∧
      (∀ b, OwnF F (upd μ nx .ph) (upd σ nx (.live (.rows sz []))) b → OwnF F μ σ b) := by
  have hno := h.fresh nx hf
  have hme : MuExt μ (upd μ nx .ph) := fun u hu => upd_ne _ _ fun e => hu (by rw [e]; exact hno)
  have hown : ∀ b, Own (upd μ nx .ph) (upd σ nx (.live (.rows sz []))) b → Own μ σ b := by
    rintro b ⟨u, B', hu, hm⟩
    by_cases e : u = nx
    · subst e; rw [upd_same] at hm; cases hm
    · rw [upd_ne _ _ e] at hu hm; exact ⟨u, B', hu, hm⟩
  have hO : ∀ b, OwnF F (upd μ nx .ph) (upd σ nx (.live (.rows sz []))) b → OwnF F μ σ b := fun b hb => hb.imp id (hown b)
  refine ⟨⟨fun u hu => ?_, fun u B' hu => ?_, ?_, ?_, h.ffin, fun b o hb => ⟨(h.gam b o hb).1, fun h' => (h.gam b o hb).2 (hO b h')⟩⟩, ⟨Nat.le_refl _, fun b _ hb => ⟨rfl, fun h' => hb (hown b h')⟩, fun _ _ => rfl, rfl, rfl⟩, hme, hO⟩
  · by_cases e : u = nx
    · subst e; rw [upd_same] at hu; cases hu
    · rw [upd_ne _ _ e] at hu ⊢; exact h.fresh u hu
  · by_cases e : u = nx
    · subst e; rw [upd_same] at hu ⊢; cases hu; rfl
    · rw [upd_ne _ _ e] at hu ⊢
      exact brep_keep (keeps_sub hO) (fun _ _ => rfl) hme (fun _ _ => rfl) (h.live u B' hu)
  · intro u v B1 B2 b hu hv h1 h2
    by_cases e : u = nx
    · subst e; rw [upd_same] at h1; cases h1
    · by_cases e' : v = nx
      · subst e'; rw [upd_same] at h2; cases h2
      · rw [upd_ne _ _ e] at hu h1; rw [upd_ne _ _ e'] at hv h2; exact h.inj u v _ _ b hu hv h1 h2
  · intro u B' b hu hm
    by_cases e : u = nx
    · subst e; rw [upd_same] at hm; cases hm
    · rw [upd_ne _ _ e] at hu hm; exact h.notF u B' b hu hm

/-! ### The model's append -/
theorem growBy_le (n : Nat) : ∀ (r c : Nat), Builtin.growBy n r c ≤ max c (n + (n + 768) / 4)
  | 0, c => by simp only [Builtin.growBy]; omega
  | r + 1, c => by
    simp only [Builtin.growBy]
    split
    · omega
    · have := growBy_le n r (c + (c + 768) / 4); omega

theorem nextcap_le {n c : Nat} (h : c < n) : Builtin.nextslicecap n c ≤ 2 * n + 1024 := by
  unfold Builtin.nextslicecap
  split
  · omega
  · split
    · omega
    · have := growBy_le n 4 c; omega

theorem run_typeInfo_bytes {e : TypeId} {i : TypeInfo} (h : P.info? e = some i) : tby P e = some i.bytes := by simp [tby, h]

/-- It fits: the new cells are laid behind. -/
theorem run_append_room {kc : Array Bool} {t t' e e' ty' : TypeId} {sz n n1 cap : Nat} {a : Option Addr} {x : Value} {ts : Array TypeId} {w w' : World} {cells : Array Value} (ht : ts[0]? = some t) (ht' : ts[1]? = some t')
    (hu : P.underlying t = some (.slice e)) (hu' : P.underlying t' = some (.slice e')) (hs : tsz P e = some sz) {ax : Option Addr} {capx : Nat} (hx : x = .slice ax n1 capx)
    (hsrc : (Builtin.firstCells sz n1 x).run P w = .ok cells w) (hc : n + n1 ≤ cap)
    (hst : ∀ b, a = some b → (storeCells (b.add (n * sz)) cells.toList).run P w = .ok () w') (hst' : a = none → w' = w) :
    (builtin .append ts ty' kc #[.slice a n cap, x]).run P w = .ok (.value (.slice a (n + n1) cap)) w' := by
  subst hx
  simp only [builtin, Builtin.append_, ht, ht', List.getElem?_toArray, List.getElem?_cons_zero, List.getElem?_cons_succ, Sem.run_bind, run_underlying hu, Result.andThen, run_sizeOf hs, run_underlying hu', Sem.run_pure, Builtin.lenOf]
  simp only [Bool.false_eq_true, if_false, Bool.not_false, if_true, Sem.run_pure, hc, Result.andThen, Sem.run_bind, hsrc]
  cases a with
  | none => rw [hst' rfl]; rfl
  | some b => simp only [Sem.run_bind, hst b rfl, Result.andThen, Sem.run_pure]

def drewW (w : World) : World := { w with drawn := w.drawn + 1 }

theorem mul_bound {x n b : Nat} (h : x ≤ 2 * n + 1024) (hb : b ≤ 1024) (hn : n ≤ 68719476736) : x * b ≤ 281474976710656 := by
  have h1 : x * b ≤ x * 1024 := Nat.mul_le_mul_left _ hb
  omega

/-- It does not: a new block. -/
theorem run_append_grow {kc : Array Bool} {t t' e e' ty' : TypeId} {sz n n1 cap by' : Nat} {a : Option Addr} {x z : Value} {ts : Array TypeId} {w : World} {cells old : Array Value} (ht : ts[0]? = some t) (ht' : ts[1]? = some t')
    (hu : P.underlying t = some (.slice e)) (hu' : P.underlying t' = some (.slice e')) (hs : tsz P e = some sz) (hby : tby P e = some by') (hz : (P.info? e).bind (·.zero) = some z) {ax : Option Addr} {capx : Nat} (hx : x = .slice ax n1 capx)
    (hsrc : (Builtin.firstCells sz n1 x).run P (drewW w) = .ok cells (drewW w)) (hold : (Builtin.firstCells sz n (.slice a n cap)).run P (drewW w) = .ok old (drewW w)) (hc : cap < n + n1)
    (hb0 : by' ≠ 0) (hb : by' ≤ 1024) (hn : n + n1 ≤ 68719476736) :
    ∃ newCap, n + n1 ≤ newCap ∧ (builtin .append ts ty' kc #[.slice a n cap, x]).run P w =
      .ok (.value (.slice (some ⟨w.heap.size, 0, none⟩) (n + n1) newCap)) (pushW (drewW w) (.cells (old ++ cells ++ Builtin.zeroCells z.cells (newCap - (n + n1))) e)) := by
  subst hx
  obtain ⟨i, hi, hib⟩ := run_bytes hby w
  have hmul : Builtin.nextslicecap (n + n1) cap * by' ≤ 281474976710656 := by
    exact mul_bound (nextcap_le hc) hb hn
  obtain ⟨newCap, hle, hch⟩ : ∃ newCap, n + n1 ≤ newCap ∧ (choose (.appendCap (n + n1) cap e)).run P w = .ok newCap (drewW w) :=
    ⟨(Question.appendCap (n + n1) cap e).cut (w.tape w.drawn (.appendCap (n + n1) cap e)), by simp only [Question.cut]; exact Nat.le_add_right _ _, by
      simp only [choose, Sem.run, Question.forced]
      rfl⟩
  refine ⟨newCap, hle, ?_⟩
  · skip
    obtain ⟨i', hi', hib'⟩ := run_bytes hby (drewW w)
    simp only [builtin, Builtin.append_, ht, ht', List.getElem?_toArray, List.getElem?_cons_zero, List.getElem?_cons_succ, Sem.run_bind, run_underlying hu, Result.andThen, run_sizeOf hs, run_underlying hu', Sem.run_pure, Builtin.lenOf]
    simp only [Bool.false_eq_true, if_false, Bool.not_false, if_true, Sem.run_pure, Result.andThen, Sem.run_bind]
    rw [if_neg (by omega)]
    simp only [Sem.run_bind, hi, Result.andThen, hib]
    rw [if_neg (by simp [hb0])]
    simp only [Sem.run_bind, hi, Result.andThen, hib]
    rw [if_neg (by
      have h2 : (2 : Nat) ^ 48 = 281474976710656 := by decide
      rw [h2]; omega)]
    simp only [Sem.run_bind]
    rw [hch]
    simp only [Result.andThen, hi', hib', run_askRoom, hold, hsrc, run_zeroValue hz, Sem.run_pure]
    rfl

end Go.Am
/- append as a step. -/
namespace Go.Am
variable {Γ : Nat → Option Obj} {P : Program}

theorem drew_rep {w : World} {O : Nat → Prop} {μ : Nat → Mu} {p : PV} {y : Value} (h : Rep w O μ p y) : Rep (drewW w) O μ p y :=
  Rep.mono (w := w) (w' := drewW w) ⟨Nat.le_refl _, fun _ _ hO => ⟨rfl, hO⟩⟩ (fun _ _ => rfl) (MuExt.refl _) h
theorem drew_srel {F : Nat → Prop} {μ : Nat → Mu} {σ : Nat → Slot} {w : World} (h : SRel Γ F w μ σ) : SRel Γ F (drewW w) μ σ :=
  ⟨h.fresh, fun t B ht => brep_keep (w' := drewW w) (w := w) ⟨Nat.le_refl _, fun _ _ hO => ⟨rfl, hO⟩⟩ (fun _ _ => rfl) (MuExt.refl _) (fun _ _ => rfl) (h.live t B ht), h.inj, h.notF, h.ffin, h.gam⟩
theorem drew_ext {w w' : World} {O O' : Nat → Prop} (h : Ext (drewW w) O w' O') : Ext w O w' O' := ⟨h.size, h.keep, h.shape, h.os, h.out⟩

theorem pushW_shape {w : World} {c : Array Value} {e : TypeId} {fr : Nat × Nat} : (pushW w (.cells c e fr)).shape? w.heap.size = some (e, c.size) := by simp only [World.shape?, pushW_new]

/-- Cells of rows, laid one behind the other. -/
def CellsOf (w : World) (O : Nat → Prop) (μ : Nat → Mu) (sz : Nat) (rows : List (List PV)) (c : Array Value) : Prop :=
  c.size = rows.length * sz ∧ ∀ (i : Nat) r (j : Nat) q, rows[i]? = some r → r[j]? = some q → ∃ z, c[i * sz + j]? = some z ∧ Rep w O μ q z

theorem cells_brep {w : World} {O : Nat → Prop} {μ : Nat → Mu} {sz : Nat} {rows rows1 : List (List PV)} {old new rest : Array Value} {e b : Nat} (hh : w.heap[b]? = some (.cells (old ++ new ++ rest) e (0, 0)))
    (h0 : CellsOf w O μ sz rows old) (h1 : CellsOf w O μ sz rows1 new) (hs0 : ∀ r ∈ rows, r.length = sz) (hs1 : ∀ r ∈ rows1, r.length = sz) : BRep w O μ (.rows sz (rows ++ rows1)) (.at b) := by
  refine ⟨_, e, 0, 0, hh, Nat.le_refl _, by simp [h0.1, h1.1, Nat.add_mul], fun r hr => ?_, fun i r j p g1 g2 => ?_⟩
  · rcases List.mem_append.1 hr with h | h
    · exact hs0 r h
    · exact hs1 r h
  · rw [List.getElem?_append] at g1
    split at g1
    · rename_i hi
      obtain ⟨z, hz1, hz2⟩ := h0.2 i r j p g1 g2
      refine ⟨z, ?_, hz2⟩
      have := (Array.getElem?_eq_some_iff.1 hz1).1
      rw [Array.append_assoc, Array.getElem?_append_left this]; exact hz1
    · rename_i hi
      obtain ⟨z, hz1, hz2⟩ := h1.2 (i - rows.length) r j p g1 g2
      refine ⟨z, ?_, hz2⟩
      have hlt := (Array.getElem?_eq_some_iff.1 hz1).1
      have hge : rows.length * sz ≤ i * sz := Nat.mul_le_mul_right _ (by omega)
      rw [Nat.sub_mul] at hz1 hlt
      rw [Array.append_assoc, Array.getElem?_append_right (by rw [h0.1]; omega), h0.1, Array.getElem?_append_left (by omega), ← hz1]
      congr 1; omega

theorem ok_append_sl {o : Oper} {A : Nat → PV} {x y : Operand} {ts : Array TypeId} {t t' e e' : TypeId} {sz by' nx : Nat} {zs : List PV} {rows rows1 : List (List PV)} {rd1 : List (Nat × Slot)} {σ0 : Nat → Slot}
    (ho : o.op = .call { callee := .builtin .append, args := #[x, y], argTypes := ts }) (ht0 : ts[0]? = some t) (ht1 : ts[1]? = some t') (hu : P.underlying t = some (.slice e)) (hu' : P.underlying t' = some (.slice e'))
    (hs : tsz P e = some sz) (hby : tby P e = some by') (hz : tzero P e = some zs) (hzl : zs.length = sz) (hx : ev A x = .sl true rows) (hy : srcRows σ0 (ev A y) = some rows1) (hrd1 : ∀ t ∈ srcIds (ev A y), (t, σ0 t) ∈ rd1)
    (hr0 : ∀ r ∈ rows, r.length = sz) (hr1 : ∀ r ∈ rows1, r.length = sz) (hb0 : by' ≠ 0) (hb : by' ≤ 1024) (hn : rows.length + rows1.length ≤ 68719476736) (hne : rows = [] ∨ rows1 ≠ []) :
    OpOK Γ P o A ⟨.os sz nx 0 (rows.length + rows1.length), (nx, .fresh) :: rd1, [(nx, .live (.rows sz (rows ++ rows1)))]⟩ := by
  intro F μ σ a w hsr ht hrd
  have hf : σ nx = .fresh := hrd (nx, .fresh) (List.mem_cons_self ..)
  have hσ : srcRows σ (ev A y) = some rows1 := by
    rw [← hy]
    have key : ∀ t ∈ srcIds (ev A y), σ t = σ0 t := fun t ht => hrd (t, σ0 t) (List.mem_cons_of_mem _ (hrd1 t ht))
    cases hq : ev A y with
    | os sz t i n => rw [hq] at key; simp only [srcRows, key t (by simp [srcIds])]
    | oa sz t i off n => rw [hq] at key; simp only [srcRows, key t (by simp [srcIds])]
    | _ => rfl
  have e1 := ev_of ht (x := x) (by rw [ho]; simp [Op.operands, Call.operands])
  have e2 := ev_of ht (x := y) (by rw [ho]; simp [Op.operands, Call.operands])
  have e1' := e1
  rw [hx] at e1
  simp only [tzero, Option.map_eq_some_iff] at hz
  obtain ⟨zv, hzv, rfl⟩ := hz
  have hcap : ∃ ad, a.eval x = .slice ad rows.length rows.length ∧ rows.length ≤ 140737488355328 := by
    generalize a.eval x = v at e1
    cases e1 with
    | pure h => cases h with
      | nil _ ad cap hf => exact ⟨ad, by rw [hf rfl]; rfl, Nat.zero_le _⟩
      | sl _ _ _ b off cap vs _ _ hlen hf _ _ _ _ => exact ⟨_, by rw [hf rfl], hlen⟩
  obtain ⟨ad, hxe, hlen⟩ := hcap
  obtain ⟨kc, hkc⟩ := run_builtin' (P := P) (ρ := a.eval) ho w
  rw [hkc]
  have hargs : (#[x, y] : Array Operand).map a.eval = #[a.eval x, a.eval y] := by simp
  rw [hargs, hxe]
  obtain ⟨a1, c1, cells1, q1, q2, q3, q4, q5⟩ := src_spec (drew_srel hsr) (drew_rep e2) hσ hr1
  by_cases hn1 : rows1 = []
  · have hr : rows = [] := hne.resolve_right (fun h => h hn1)
    subst hn1 hr
    obtain ⟨a2, c2, cells2, p1, p2, p3, p4, p5⟩ := src_spec hsr e2 hσ hr1
    have hc0 : cells2 = #[] := by simpa using p4
    subst hc0
    have := run_append_room (P := P) (kc := kc) (ty' := o.type) (n := 0) (cap := 0) (a := ad) (w := w) (w' := w) ht0 ht1 hu hu' hs p1 p3 (Nat.le_refl _) (fun b _ => by simp [storeCells]) (fun _ => rfl)
    simp only [List.length_nil] at this ⊢
    rw [this]
    obtain ⟨k1, k2, k3, _⟩ := srel_ph (sz := sz) hsr hf
    exact ⟨_, k1, .ph sz nx ad (upd_same _ _ _), k2, k3⟩
  · have hpos : 0 < rows1.length := List.length_pos_iff.2 hn1
    have e1d := drew_rep e1'
    rw [hx, hxe] at e1d
    obtain ⟨a0, c0, cells0, p1, p2, p3, p4, p5⟩ := src_spec (σ := σ) (drew_srel hsr) e1d (rows := rows) rfl hr0
    obtain ⟨newCap, hle, hrun⟩ := run_append_grow (P := P) (kc := kc) (ty' := o.type) (n := rows.length) (cap := rows.length) (a := ad) (w := w) ht0 ht1 hu hu' hs hby hzv q1 q3 p3 (by omega) hb0 hb hn
    rw [hrun]
    have hlift : ∀ {q : PV} {v : Value}, Rep (drewW w) (OwnF F μ σ) μ q v → Rep (pushW (drewW w) (.cells (cells0 ++ cells1 ++ Builtin.zeroCells zv.cells (newCap - (rows.length + rows1.length))) e)) (OwnF F (upd μ nx (.at (drewW w).heap.size)) (upd σ nx (.live (.rows sz (rows ++ rows1))))) (upd μ nx (.at (drewW w).heap.size)) q v :=
      fun h => rep_new (drew_srel hsr) hf h
    have hB := cells_brep (w := pushW (drewW w) (.cells (cells0 ++ cells1 ++ Builtin.zeroCells zv.cells (newCap - (rows.length + rows1.length))) e)) (O := OwnF F (upd μ nx (.at (drewW w).heap.size)) (upd σ nx (.live (.rows sz (rows ++ rows1)))))
      (μ := upd μ nx (.at (drewW w).heap.size)) (sz := sz) (rows := rows) (rows1 := rows1) (b := (drewW w).heap.size) pushW_new ⟨p4, fun i r j q g1 g2 => let ⟨z, z1, z2⟩ := p5 i r j q g1 g2; ⟨z, z1, hlift z2⟩⟩ ⟨q4, fun i r j q g1 g2 => let ⟨z, z1, z2⟩ := q5 i r j q g1 g2; ⟨z, z1, hlift z2⟩⟩ hr0 hr1
    obtain ⟨k1, k2, k3⟩ := srel_new (drew_srel hsr) hf hB
    refine ⟨_, k1, ?_, drew_ext k2, k3⟩
    refine rep_os0 (upd_same μ nx _) hle (by omega) ⟨e, _, pushW_shape (w := drewW w), ?_⟩
    have hzs : zv.cells.size = sz := by simpa using hzl
    simp only [Array.size_append, p4, q4, Builtin.zeroCells, Array.size_map, Array.size_range, hzs]
    rw [← Nat.add_mul, ← Nat.add_mul]
    exact Nat.mul_le_mul_right _ (by omega)

theorem ok_append_os {o : Oper} {A : Nat → PV} {x y : Operand} {ts : Array TypeId} {t t' e e' : TypeId} {sz by' nx b0 n0 : Nat} {zs : List PV} {rows rows1 : List (List PV)} {rd1 : List (Nat × Slot)} {σ0 : Nat → Slot}
    (ho : o.op = .call { callee := .builtin .append, args := #[x, y], argTypes := ts }) (ht0 : ts[0]? = some t) (ht1 : ts[1]? = some t') (hu : P.underlying t = some (.slice e)) (hu' : P.underlying t' = some (.slice e'))
    (hs : tsz P e = some sz) (hby : tby P e = some by') (hz : tzero P e = some zs) (hzl : zs.length = sz) (hx : ev A x = .os sz b0 0 n0) (hb0' : σ0 b0 = .live (.rows sz rows)) (hn0 : n0 = rows.length)
    (hy : srcRows σ0 (ev A y) = some rows1) (hrd1 : ∀ t ∈ srcIds (ev A y), (t, σ0 t) ∈ rd1)
    (hr1 : ∀ r ∈ rows1, r.length = sz) (hcell : rows1.all (fun r => r.all cellP) = true) (hb0 : by' ≠ 0) (hb : by' ≤ 1024) (hn : rows.length + rows1.length ≤ 68719476736) :
    OpOK Γ P o A ⟨.os sz nx 0 (rows.length + rows1.length), (nx, .fresh) :: (b0, .live (.rows sz rows)) :: rd1, [(nx, .live (.rows sz (rows ++ rows1))), (b0, .dead)]⟩ := by
  subst hn0
  intro F μ σ a w hsr ht hrd
  have hf : σ nx = .fresh := hrd (nx, .fresh) (List.mem_cons_self ..)
  have hσb : σ b0 = .live (.rows sz rows) := hrd (b0, .live (.rows sz rows)) (List.mem_cons_of_mem _ (List.mem_cons_self ..))
  have hne : nx ≠ b0 := fun e => by rw [e, hσb] at hf; cases hf
  have hσ : srcRows σ (ev A y) = some rows1 := by
    rw [← hy]
    have key : ∀ t ∈ srcIds (ev A y), σ t = σ0 t := fun t ht => hrd (t, σ0 t) (List.mem_cons_of_mem _ (List.mem_cons_of_mem _ (hrd1 t ht)))
    cases hq : ev A y with
    | os sz t i n => rw [hq] at key; simp only [srcRows, key t (by simp [srcIds])]
    | oa sz t i off n => rw [hq] at key; simp only [srcRows, key t (by simp [srcIds])]
    | _ => rfl
  have e1 := ev_of ht (x := x) (by rw [ho]; simp [Op.operands, Call.operands])
  have e2 := ev_of ht (x := y) (by rw [ho]; simp [Op.operands, Call.operands])
  have e1' := e1
  rw [hx] at e1
  simp only [tzero, Option.map_eq_some_iff] at hz
  obtain ⟨zv, hzv, rfl⟩ := hz
  have hzs : zv.cells.size = sz := by simpa using hzl
  have hB0 := hsr.live b0 _ hσb
  have hrows : ∀ r ∈ rows, r.length = sz := by
    cases hm : μ b0 with
    | no => rw [hm] at hB0; exact hB0.elim
    | ph => rw [hm] at hB0; have : rows = [] := hB0; subst this; intro r hr; cases hr
    | «at» bb => rw [hm] at hB0; obtain ⟨c, ty, lo, hi, _, _, _, e4, _⟩ := hB0; exact e4
  obtain ⟨kc, hkc⟩ := run_builtin' (P := P) (ρ := a.eval) ho w
  rw [hkc]
  have hargs : (#[x, y] : Array Operand).map a.eval = #[a.eval x, a.eval y] := by simp
  rw [hargs]
  -- what grows
  have grow : ∀ (ad : Option Addr) (cap : Nat), a.eval x = .slice ad rows.length cap → cap < rows.length + rows1.length →
      match (builtin .append ts o.type kc #[a.eval x, a.eval y]).run P w with
      | .ok (.value v) w' => Good Γ F μ σ w ⟨.os sz nx 0 (rows.length + rows1.length), (nx, .fresh) :: (b0, .live (.rows sz rows)) :: rd1, [(nx, .live (.rows sz (rows ++ rows1))), (b0, .dead)]⟩ v w'
      | .ok .skip w' => Good Γ F μ σ w ⟨.os sz nx 0 (rows.length + rows1.length), (nx, .fresh) :: (b0, .live (.rows sz rows)) :: rd1, [(nx, .live (.rows sz (rows ++ rows1))), (b0, .dead)]⟩ undef w'
      | .ok (.enter f args) w' => Calls P f args w' fun e w'' => ∃ y, e = .returned y ∧ Good Γ F μ σ w ⟨.os sz nx 0 (rows.length + rows1.length), (nx, .fresh) :: (b0, .live (.rows sz rows)) :: rd1, [(nx, .live (.rows sz (rows ++ rows1))), (b0, .dead)]⟩ y w''
      | _ => False := by
    intro ad cap hxe hcap
    obtain ⟨a1, c1, cells1, q1, q2, q3, q4, q5⟩ := src_spec (drew_srel hsr) (drew_rep e2) hσ hr1
    have e1d := drew_rep e1'
    rw [hx, hxe] at e1d
    obtain ⟨a0, c0, cells0, p1, p2, p3, p4, p5⟩ := src_spec (σ := σ) (drew_srel hsr) e1d (rows := rows) (by simp [srcRows, hσb]) hrows
    obtain ⟨newCap, hle, hrun⟩ := run_append_grow (P := P) (kc := kc) (ty' := o.type) (n := rows.length) (cap := cap) (a := ad) (w := w) ht0 ht1 hu hu' hs hby hzv q1 q3 p3 hcap hb0 hb hn
    rw [hxe, hrun]
    have hlift : ∀ {q : PV} {v : Value}, Rep (drewW w) (OwnF F μ σ) μ q v → Rep (pushW (drewW w) (.cells (cells0 ++ cells1 ++ Builtin.zeroCells zv.cells (newCap - (rows.length + rows1.length))) e)) (OwnF F (upd μ nx (.at (drewW w).heap.size)) (upd σ nx (.live (.rows sz (rows ++ rows1))))) (upd μ nx (.at (drewW w).heap.size)) q v :=
      fun h => rep_new (drew_srel hsr) hf h
    have hB := cells_brep (w := pushW (drewW w) (.cells (cells0 ++ cells1 ++ Builtin.zeroCells zv.cells (newCap - (rows.length + rows1.length))) e)) (O := OwnF F (upd μ nx (.at (drewW w).heap.size)) (upd σ nx (.live (.rows sz (rows ++ rows1)))))
      (μ := upd μ nx (.at (drewW w).heap.size)) (sz := sz) (rows := rows) (rows1 := rows1) (b := (drewW w).heap.size) pushW_new ⟨p4, fun i r j q g1 g2 => let ⟨z, z1, z2⟩ := p5 i r j q g1 g2; ⟨z, z1, hlift z2⟩⟩ ⟨q4, fun i r j q g1 g2 => let ⟨z, z1, z2⟩ := q5 i r j q g1 g2; ⟨z, z1, hlift z2⟩⟩ hrows hr1
    obtain ⟨k1, k2, k3⟩ := srel_new (drew_srel hsr) hf hB
    obtain ⟨m1, m2, m3⟩ := srel_kill k1 (t := b0) (by rw [upd_ne _ _ (Ne.symm hne), hσb]; simp)
    rw [upd_comm _ _ _ hne] at m1 m2
    refine ⟨_, m1, ?_, drew_ext (k2.trans m2), k3⟩
    refine rep_os0 (upd_same μ nx _) hle (by omega) ⟨e, _, pushW_shape (w := drewW w), ?_⟩
    simp only [Array.size_append, p4, q4, Builtin.zeroCells, Array.size_map, Array.size_range, hzs]
    rw [← Nat.add_mul, ← Nat.add_mul]
    exact Nat.mul_le_mul_right _ (by omega)
  generalize hv : a.eval x = v at e1
  obtain ⟨N0, hN⟩ : ∃ N0, rows.length = N0 := ⟨_, rfl⟩
  rw [hN] at e1
  cases e1 with
  | pure h => cases h
  | ph _ _ ad hm =>
    rw [hm] at hB0
    have hr0 : rows = [] := hB0
    by_cases hn1 : rows1 = []
    · subst hn1 hr0
      obtain ⟨a2, c2, cells2, p1, p2, p3, p4, p5⟩ := src_spec hsr e2 hσ hr1
      have hc0 : cells2 = #[] := by simpa using p4
      subst hc0
      have := run_append_room (P := P) (kc := kc) (ty' := o.type) (n := 0) (cap := 0) (a := ad) (w := w) (w' := w) ht0 ht1 hu hu' hs p1 p3 (Nat.le_refl _) (fun b _ => by simp [storeCells]) (fun _ => rfl)
      simp only [List.length_nil] at this ⊢
      rw [this]
      obtain ⟨k1, k2, k3, _⟩ := srel_rename hsr hσb hf
      refine ⟨_, k1, .ph sz nx ad (by rw [upd_same]; exact hm), k2, k3⟩
    · rw [← hv]
      refine grow ad 0 ?_ ?_
      · rw [hv, hN]
      · have : 0 < rows1.length := List.length_pos_iff.2 hn1
        omega
  | os _ _ _ _ bb cap hm hncap hlen hsh =>
    subst hN
    by_cases hfit : rows.length + rows1.length ≤ cap
    · obtain ⟨a1, c1, cells1, q1, q2, q3, q4, q5⟩ := src_spec hsr e2 hσ hr1
      rw [hm] at hB0
      obtain ⟨c, ty, lo, hi, g1, g2, g3, g4, g5⟩ := hB0
      obtain ⟨ty', m, hsh1, hsh2⟩ := hsh
      have hm' : m = c.size := by simp only [World.shape?, g1, Option.some.injEq, Prod.mk.injEq] at hsh1; exact hsh1.2.symm
      subst hm'
      rw [Nat.zero_add] at hsh2
      have hsize : rows.length * sz + rows1.length * sz ≤ c.size := by
        have : (rows.length + rows1.length) * sz ≤ cap * sz := Nat.mul_le_mul_right _ hfit
        rw [Nat.add_mul] at this; omega
      have hcl : cells1.toList.length = rows1.length * sz := by simpa using q4
      have hst := run_storeCells (P := P) bb (rows.length * sz) ty lo hi g2 cells1.toList 0 c w g1 (by rw [hcl]; omega) (fun z hz' => by
        obtain ⟨k, hk⟩ := List.getElem?_of_mem hz'
        have hk' : cells1[k]? = some z := by simpa using hk
        have hklt : k < rows1.length * sz := by rw [← q4]; exact (Array.getElem?_eq_some_iff.1 hk').1
        have hsz0 : 0 < sz := by rcases Nat.eq_zero_or_pos sz with h | h; (rw [h] at hklt; simp at hklt); exact h
        have hi' : k / sz < rows1.length := by rw [Nat.div_lt_iff_lt_mul hsz0]; exact hklt
        have hj' : k % sz < sz := Nat.mod_lt _ hsz0
        have hrl : (rows1[k / sz]).length = sz := hr1 _ (List.getElem_mem _)
        obtain ⟨z', hz1, hz2⟩ := q5 (k / sz) rows1[k / sz] (k % sz) (rows1[k / sz][k % sz]'(by omega)) (by simp) (by simp)
        rw [Nat.div_add_mod' k sz, hk'] at hz1
        cases hz1
        refine hz2.cellV ?_
        simp only [List.all_eq_true] at hcell
        exact hcell _ (List.getElem_mem _) _ (List.getElem_mem _))
      rw [Nat.add_zero] at hst
      have hrun := run_append_room (P := P) (kc := kc) (ty' := o.type) (n := rows.length) (cap := cap) (a := some ⟨bb, 0 * sz, none⟩) (w := w) ht0 ht1 hu hu' hs q1 q3 hfit
        (fun b hb => by cases hb; rw [addr_add, Nat.zero_mul, Nat.zero_add]; exact hst) (fun h => by cases h)
      rw [hrun]
      have hown : Own μ σ bb := ⟨b0, _, hσb, hm⟩
      have hshape : (setBlk w bb (.cells (writeAt c (rows.length * sz) cells1.toList) ty (lo, hi))).shape? bb = w.shape? bb := by
        simp [World.shape?, setBlk_same (lt_of_heap g1), g1, writeAt_size]
      have hkeep : Keeps w (OwnF F μ σ) (setBlk w bb (.cells (writeAt c (rows.length * sz) cells1.toList) ty (lo, hi))) (OwnF F μ σ) :=
        ⟨by rw [setBlk_size]; exact Nat.le_refl _, fun k _ hk => ⟨setBlk_ne fun e => hk (by subst e; exact .inr hown), hk⟩⟩
      have hsh2' : ∀ k, k < w.heap.size → (setBlk w bb (.cells (writeAt c (rows.length * sz) cells1.toList) ty (lo, hi))).shape? k = w.shape? k := fun k _ => by
        by_cases e : k = bb
        · subst e; exact hshape
        · simp only [World.shape?, setBlk_ne e]
      have lift : ∀ {p : PV} {z : Value}, Rep w (OwnF F μ σ) μ p z → Rep (setBlk w bb (.cells (writeAt c (rows.length * sz) cells1.toList) ty (lo, hi))) (OwnF F μ σ) μ p z := fun h => h.mono hkeep hsh2' (MuExt.refl _)
      have hB' : BRep (setBlk w bb (.cells (writeAt c (rows.length * sz) cells1.toList) ty (lo, hi))) (OwnF F μ σ) μ (.rows sz (rows ++ rows1)) (.at bb) := by
        refine ⟨_, ty, lo, hi, setBlk_same (lt_of_heap g1), g2, by rw [writeAt_size, List.length_append, Nat.add_mul]; exact hsize, fun r hr => ?_, fun i r j p k1 k2 => ?_⟩
        · rcases List.mem_append.1 hr with h | h
          · exact hrows r h
          · exact hr1 r h
        · have hget := writeAt_get cells1.toList c (rows.length * sz) (i * sz + j) (by rw [hcl]; exact hsize)
          rw [hcl] at hget
          rw [hget]
          rw [List.getElem?_append] at k1
          split at k1
          · rename_i hi'
            have hrl : r.length = sz := hrows r (List.mem_of_getElem? k1)
            have hj : j < sz := by rw [← hrl]; exact (List.getElem?_eq_some_iff.1 k2).1
            have : (i + 1) * sz ≤ rows.length * sz := Nat.mul_le_mul_right _ hi'
            rw [Nat.add_mul] at this
            rw [if_neg (by omega)]
            obtain ⟨z, z1, z2⟩ := g5 i r j p k1 k2
            exact ⟨z, z1, lift z2⟩
          · rename_i hi'
            have hrl : r.length = sz := hr1 r (List.mem_of_getElem? k1)
            have hj : j < sz := by rw [← hrl]; exact (List.getElem?_eq_some_iff.1 k2).1
            have hlt : i - rows.length < rows1.length := (List.getElem?_eq_some_iff.1 k1).1
            have h1 : rows.length * sz ≤ i * sz := Nat.mul_le_mul_right _ (by omega)
            have h2 : (i - rows.length + 1) * sz ≤ rows1.length * sz := Nat.mul_le_mul_right _ hlt
            rw [Nat.add_mul, Nat.sub_mul] at h2
            rw [if_pos (by omega)]
            obtain ⟨z, z1, z2⟩ := q5 (i - rows.length) r j p k1 k2
            refine ⟨z, ?_, lift z2⟩
            rw [Nat.sub_mul] at z1
            rw [Array.getElem?_toList, show i * sz + j - rows.length * sz = i * sz - rows.length * sz + j from by omega]
            exact z1
      obtain ⟨s1, s2⟩ := srel_set hsr hσb hm hshape hB'
      have hf' : upd σ b0 (.live (.rows sz (rows ++ rows1))) nx = .fresh := by rw [upd_ne _ _ hne]; exact hf
      obtain ⟨r1, r2, r3, _⟩ := srel_rename s1 (upd_same σ b0 _) hf'
      have hupd : ∀ s, upd (upd σ b0 s) b0 .dead = upd σ b0 .dead := fun s => by funext k; simp only [upd]; split <;> rfl
      rw [hupd] at r1 r2
      refine ⟨_, r1, ?_, s2.trans r2, r3⟩
      rw [Nat.zero_mul]
      refine rep_os0 (by rw [upd_same]; exact hm) hfit (by omega) ⟨ty, c.size, ?_, hsh2⟩
      rw [hshape]
      simp only [World.shape?, g1]
    · rw [← hv]
      exact grow (some ⟨bb, 0 * sz, none⟩) cap hv (by omega)

end Go.Am
/- Calls by contract. -/
namespace Go.Am
variable {Γ : Nat → Option Obj} {P : Program}

/-- A call as one step. -/
def CallOK (Γ : Nat → Option Obj) (P : Program) (g : FuncId) (args : List PV) (r : Rec) : Prop :=
  ∀ (F : Nat → Prop) (μ : Nat → Mu) (σ : Nat → Slot) (w : World) (cargs : Array Value), SRel Γ F w μ σ → Reps w (OwnF F μ σ) μ args cargs.toList → (∀ p ∈ r.rd, σ p.1 = p.2) →
    Calls P g cargs w fun e w' => ∃ y, e = .returned y ∧ Good Γ F μ σ w r y w'

/-- A mark that keeps what it speaks of from being rewritten. -/
inductive Tok {α : Type} (x : α) : Type where
  | mk : Tok x

def CallK (Γ : Nat → Option Obj) (P : Program) (g : FuncId) (args : List PV) (σ : Nat → Slot) (nx : Nat) (K : PV → List Nat → List (Nat × Slot) → Nat → Prop) (_ : Tok K) : Prop :=
  ∃ (r : Rec) (nx' : Nat), CallOK Γ P g args r ∧ Ent P g ∧ (∀ p ∈ r.rd, σ p.1 = p.2) ∧ nx ≤ nx' ∧ K r.val (r.rd.map (·.1)) r.wr nx'

theorem ok_call {o : Oper} {A : Nat → PV} {f : Operand} {xs : Array Operand} {ts : Array TypeId} {g : FuncId} {first caps : List PV} {r : Rec}
    (ho : o.op = .call { callee := .value f, args := xs, argTypes := ts }) (hf : ev A f = .fn (.func g) first caps) (he : Ent P g)
    (h : CallOK Γ P g (first ++ xs.toList.map (ev A) ++ caps) r) : OpOK Γ P o A r := by
  intro F μ σ a w hs ht hrd
  have e1 := ev_of ht (x := f) (by rw [ho]; simp [Op.operands, Call.operands])
  rw [hf] at e1
  have hargs : Reps w (OwnF F μ σ) μ (xs.toList.map (ev A)) (xs.toList.map a.eval) :=
    ⟨by simp, reps_map xs.toList fun x hx => ev_of ht (by rw [ho]; simp [Op.operands, Call.operands]; exact .inr (by simpa using hx))⟩
  generalize hz : a.eval f = z at e1
  have fin : ∀ (ys zs : Array Value), z = .func (.func g) ys zs → Reps w (OwnF F μ σ) μ first ys.toList → Reps w (OwnF F μ σ) μ caps zs.toList →
      match (execOp a.eval o).run P w with
      | .ok (.value y) w' => Good Γ F μ σ w r y w'
      | .ok .skip w' => Good Γ F μ σ w r undef w'
      | .ok (.enter f args) w' => Calls P f args w' fun e w'' => ∃ y, e = .returned y ∧ Good Γ F μ σ w r y w''
      | _ => False := by
    intro ys zs hzv h1 h2
    have hrun : (execOp a.eval o).run P w = .ok (.enter g (ys ++ xs.map a.eval ++ zs)) w := by
      simp only [execOp, ho, resolve, hz, hzv, Deferred.ofValue, Sem.run_bind, Sem.run_pure, Result.andThen, invoke]
      exact he _ w
    rw [hrun]
    refine h F μ σ w _ hs ?_ hrd
    have := (h1.append hargs).append h2
    simpa using this
  cases e1 with
  | pure h' => cases h' with
    | fn _ _ _ ys zs hl hl' hh hh' =>
      exact fin ys zs rfl ⟨by simpa using hl, fun i p y g1 g2 => .pure (hh i p y g1 (by simpa using g2))⟩ ⟨by simpa using hl', fun i p y g1 g2 => .pure (hh' i p y g1 (by simpa using g2))⟩
  | fn _ _ _ ys zs hl hl' hh hh' =>
    exact fin ys zs rfl ⟨by simpa using hl, fun i p y g1 g2 => hh i p y g1 (by simpa using g2)⟩ ⟨by simpa using hl', fun i p y g1 g2 => hh' i p y g1 (by simpa using g2)⟩

theorem SRel.fr {F : Nat → Prop} {μ : Nat → Mu} {σ : Nat → Slot} {w : World} (h : SRel Γ F w μ σ) : Fr Γ (OwnF F μ σ) w := ⟨fun _ hb => ownF_lt h hb, h.gam⟩

/-- Whatever happens outside of the blocks of the call's own leaves them. -/
theorem SRel.out {F : Nat → Prop} {μ : Nat → Mu} {σ : Nat → Slot} {w w' : World} (h : SRel Γ F w μ σ) (hx : Ext w (fun _ => False) w' (fun _ => False)) : SRel Γ F w' μ σ := by
  have hk : Keeps w (OwnF F μ σ) w' (OwnF F μ σ) := ⟨hx.size, fun b hb hO => ⟨(hx.keep b hb fun h => h).1, hO⟩⟩
  exact ⟨h.fresh, fun t B ht => brep_keep hk hx.shape (MuExt.refl _) (fun b hb => (hx.keep b (own_lt h ⟨t, B, ht, hb⟩) fun h => h).1) (h.live t B ht), h.inj, h.notF,
    fun b hb => Nat.lt_of_lt_of_le (h.ffin b hb) hx.size, fun b o hb => by
      have h1 := h.gam b o hb
      exact ⟨((hx.keep b (lt_of_heap h1.1) fun h => h).1).trans h1.1, h1.2⟩⟩

theorem Ext.anyO {w w' : World} {O : Nat → Prop} (hx : Ext w (fun _ => False) w' (fun _ => False)) : Ext w O w' O :=
  ⟨hx.size, fun b hb hO => ⟨(hx.keep b hb fun h => h).1, hO⟩, hx.shape, hx.os, hx.out⟩

/-- A call of a function of data, with data. -/
theorem callOK_pure {g : FuncId} {args : List PV} {p : PV} (h : Pure Γ P g args p) (hp : isPL args = true) : CallOK Γ P g args ⟨p, [], []⟩ := by
  intro F μ σ w cargs hs ha _
  rw [isPL_eq, List.all_eq_true] at hp
  refine (h (OwnF F μ σ) w cargs hs.fr ⟨ha.1, fun i q y h1 h2 => (ha.2 i q y h1 h2).isP (hp q (List.mem_of_getElem? h1))⟩).mono ?_
  rintro e w' ⟨y, rfl, hy, hx⟩
  exact ⟨y, rfl, μ, hs.out hx, .pure hy, hx.anyO, MuExt.refl _⟩

theorem CallK_pure {g : FuncId} {args : List PV} {p : PV} {σ : Nat → Slot} {nx : Nat} {K : PV → List Nat → List (Nat × Slot) → Nat → Prop} (h : Pure Γ P g args p) (he : Ent P g)
    (hp : isPL args = true) (hK : K p [] [] nx) : CallK Γ P g args σ nx K .mk :=
  ⟨⟨p, [], []⟩, nx, callOK_pure h hp, he, by simp, Nat.le_refl _, hK⟩

/-! ### A function's body -/
def entry (args : List PV) : Nat → PV := fun t => args.getD t .any

theorem calls_of_AW {f : FuncId} {fn : Func} {c : Code} {args : List PV} {σ : Nat → Slot} {k : Nat} {Q : Exit → St → Prop} (hf : P.funcs[f]? = some fn) (hb : fn.body = some c)
    (hn : args.length ≤ fn.ntmps) (h : AW Γ P fn.ntmps k c Q ⟨entry args, σ⟩) {F : Nat → Prop} {μ : Nat → Mu} {w : World} {cargs : Array Value} (hs : SRel Γ F w μ σ)
    (ha : Reps w (OwnF F μ σ) μ args cargs.toList) {R : Ending → World → Prop}
    (hR : ∀ e a' w' μ' st', Rel Γ F fn.ntmps μ' st' a' w' → Ext w (Own μ σ) w' (Own μ' st'.σ) → (∀ t, t < k → μ t ≠ .no → μ' t = μ t) → Q e st' → bodyPost P fn R e a' w') :
    Calls P f cargs w R := by
  refine calls_of_wp hf hb ?_
  have hsz : cargs.size = args.length := by simpa using ha.1.symm
  refine wp_mono (h F μ _ w ⟨by simp; omega, rfl, fun t => ?_, hs⟩) fun e a' w' ⟨μ', st', h1, h2, h3, h4⟩ => hR e a' w' μ' st' h1 h2 h3 h4
  by_cases ht : t < args.length
  · have h1 : (cargs ++ Array.replicate (fn.ntmps - cargs.size) undef).getD t undef = cargs[t]'(by omega) := by
      rw [Array.getD_eq_getD_getElem?, Array.getElem?_append_left (by omega)]
      simp [show t < cargs.size from by omega]
    show Rep w _ μ (entry args t) ((cargs ++ Array.replicate (fn.ntmps - cargs.size) undef).getD t undef)
    rw [h1]
    exact ha.2 t _ _ (by simp [entry, ht]) (by simp [show t < cargs.size from by omega])
  · have h1 : entry args t = .any := by simp [entry, List.getElem?_eq_none (Nat.le_of_not_lt ht)]
    show Rep w _ μ (entry args t) _
    rw [h1]; exact .any _

/-- What a function hands back. -/
def ResA (Γ : Nat → Option Obj) (P : Program) (fn : Func) (st : St) (r : PV) : Prop :=
  ∀ (F : Nat → Prop) (N : Nat) (μ : Nat → Mu) (a : Act) (w : World), Rel Γ F N μ st a w → ∃ y, (results fn a.tmps).run P w = .ok y w ∧ Rep w (OwnF F μ st.σ) μ r y

/-- .. told by data that stays when the call's own blocks are forgotten. -/
def Viewable (Γ : Nat → Option Obj) (σ : Nat → Slot) (r r' : PV) : Prop :=
  ∀ (F : Nat → Prop) (μ : Nat → Mu) (w : World) (y : Value), SRel Γ F w μ σ → Rep w (OwnF F μ σ) μ r y → PRep w F r' y

theorem PRep.weaken {w : World} {O O' : Nat → Prop} (h : ∀ b, O' b → O b) {p : PV} {y : Value} (hp : PRep w O p y) : PRep w O' p y :=
  hp.mono ⟨Nat.le_refl _, fun b _ hb => ⟨rfl, fun h' => hb (h b h')⟩⟩

theorem Viewable.isP {σ : Nat → Slot} {r : PV} (h : isP r = true) : Viewable Γ σ r r := fun _ _ _ _ _ hr => (hr.isP h).weaken fun _ hb => .inl hb

/-- How a function of data ends. -/
def PureQ (Γ : Nat → Option Obj) (P : Program) (fn : Func) (p : PV) (e : Exit) (st : St) : Prop :=
  (e = .normal ∨ e = .ret) ∧ ∃ r, ResA Γ P fn st r ∧ Viewable Γ st.σ r p

theorem Ext.toNone {w w' : World} {O O' : Nat → Prop} (h : Ext w O w' O') (hO : ∀ b, ¬ O b) : Ext w (fun _ => False) w' (fun _ => False) :=
  ⟨h.size, fun b hb _ => ⟨(h.keep b hb (hO b)).1, fun h => h⟩, h.shape, h.os, h.out⟩

theorem pure_of_AW {f : FuncId} {fn : Func} {c : Code} {args : List PV} {p : PV} (hf : P.funcs[f]? = some fn) (hb : fn.body = some c) (hn : args.length ≤ fn.ntmps)
    (h : AW Γ P fn.ntmps 0 c (PureQ Γ P fn p) ⟨entry args, noσ⟩) : Pure Γ P f args p := by
  intro F w cargs hfr ha
  have hown : ∀ b, ¬ Own (fun _ => .no) noσ b := by rintro b ⟨t, B, ht, _⟩; cases ht
  have hs : SRel Γ F w (fun _ => .no) noσ := by
    refine ⟨fun _ _ => rfl, ?_, ?_, ?_, hfr.ffin, ?_⟩
    · intro t B ht; cases ht
    · intro t u B B' b ht; cases ht
    · intro t B b ht; cases ht
    · intro b o hb
      exact ⟨(hfr.gam b o hb).1, fun h' => h'.elim (hfr.gam b o hb).2 (hown b)⟩
  refine calls_of_AW hf hb hn h hs ⟨ha.1, fun i q y h1 h2 => .pure ((ha.2 i q y h1 h2).weaken fun b hb => hb.elim id fun h' => absurd h' (hown b))⟩ ?_
  intro e a' w' μ' st' hr hx _ hq
  obtain ⟨he, r, hres, hv⟩ := hq
  obtain ⟨y, hy, hrep⟩ := hres F _ μ' a' w' hr
  have hfin : ∃ y', Ending.returned y = .returned y' ∧ PRep w' F p y' ∧ Ext w (fun _ => False) w' (fun _ => False) := ⟨y, rfl, hv F μ' w' y hr.sto hrep, hx.toNone hown⟩
  rcases he with rfl | rfl
  · exact ⟨hr.dfs, y, hy, hfin⟩
  · exact ⟨hr.dfs, y, hy, hfin⟩

theorem resA_tmp {fn : Func} {t : Tmp} (h : fn.results = #[.tmp t]) {st : St} : ResA Γ P fn st (st.a t) :=
  fun _ _ _ a w hr => ⟨_, results_tmp h a.tmps P w, hr.tmp t⟩
theorem resA_none {fn : Func} (h : fn.results = #[]) {st : St} : ResA Γ P fn st (.tup []) :=
  fun _ _ _ a w hr => ⟨_, results_none h a.tmps P w, .tup [] #[] rfl fun i p y h1 h2 => by simp at h1⟩
theorem resA_tmp2 {fn : Func} {t u : Tmp} (h : fn.results = #[.tmp t, .tmp u]) {st : St} : ResA Γ P fn st (.tup [st.a t, st.a u]) :=
  fun _ _ _ a w hr => ⟨_, results_tmp2 h a.tmps P w, .tup _ _ rfl fun i p y h1 h2 => by
    match i with
    | 0 => simp at h1 h2; subst h1 h2; simpa using hr.tmp t
    | 1 => simp at h1 h2; subst h1 h2; simpa using hr.tmp u
    | i + 2 => simp at h1⟩

end Go.Am
/- min, max, clear, copy; calls that work on blocks of the caller's. -/
namespace Go.Am
variable {Γ : Nat → Option Obj} {P : Program}

theorem vals_of {w : World} {O : Nat → Prop} {μ : Nat → Mu} {A : Nat → PV} {a : Act} {o : Oper} (ht : ∀ t, Operand.tmp t ∈ o.op.operands.toList → Rep w O μ (A t) (a.tmps.getD t undef)) (xs : List Operand)
    (hx : ∀ x ∈ xs, x ∈ o.op.operands.toList) (vs : List Value) (h : vsOf (xs.map (ev A)) = some vs) : xs.map a.eval = vs :=
  toV_list (w := w) (O := O) (μ := μ) (xs.map (ev A)) vs (xs.map a.eval) h (by simp) (reps_map xs fun x h' => ev_of ht (hx x h'))

theorem ok_min {o : Oper} {A : Nat → PV} {xs : Array Operand} {ts : Array TypeId} {vs : List Value} {c : Value} (ho : o.op = .call { callee := .builtin .min, args := xs, argTypes := ts })
    (hv : vsOf (xs.toList.map (ev A)) = some vs) (hc : sc P (Builtin.min_ ts 0 vs.toArray) = some c) : OpOK Γ P o A ⟨.v c, [], []⟩ :=
  .value fun F μ σ a w _ ht _ => by
    have h1 := vals_of ht xs.toList (fun x hx => by rw [ho]; simp [Op.operands, Call.operands]; simpa using hx) vs hv
    have h2 : xs.map a.eval = vs.toArray := Array.toList_inj.1 (by rw [Array.toList_map]; exact h1)
    refine ⟨c, ?_, .pure (.v c)⟩
    obtain ⟨kc, hkc⟩ := run_builtin' (P := P) (ρ := a.eval) ho w
    rw [hkc, h2]
    have h3 : (Builtin.min_ ts o.type vs.toArray).run P w = .ok c w := sc_run hc w
    simp only [builtin]
    rw [Sem.run_bind, h3]; rfl

theorem ok_max {o : Oper} {A : Nat → PV} {xs : Array Operand} {ts : Array TypeId} {vs : List Value} {c : Value} (ho : o.op = .call { callee := .builtin .max, args := xs, argTypes := ts })
    (hv : vsOf (xs.toList.map (ev A)) = some vs) (hc : sc P (Builtin.max_ ts 0 vs.toArray) = some c) : OpOK Γ P o A ⟨.v c, [], []⟩ :=
  .value fun F μ σ a w _ ht _ => by
    have h1 := vals_of ht xs.toList (fun x hx => by rw [ho]; simp [Op.operands, Call.operands]; simpa using hx) vs hv
    have h2 : xs.map a.eval = vs.toArray := Array.toList_inj.1 (by rw [Array.toList_map]; exact h1)
    refine ⟨c, ?_, .pure (.v c)⟩
    obtain ⟨kc, hkc⟩ := run_builtin' (P := P) (ρ := a.eval) ho w
    rw [hkc, h2]
    have h3 : (Builtin.max_ ts o.type vs.toArray).run P w = .ok c w := sc_run hc w
    simp only [builtin]
    rw [Sem.run_bind, h3]; rfl

/-- Cells of a row of the call's own are written. -/
theorem good_store {F : Nat → Prop} {μ : Nat → Mu} {σ : Nat → Slot} {w : World} (hs : SRel Γ F w μ σ) {b bb i off sz ty lo hi : Nat} {rs : List (List PV)} {row cs : List PV} {c : Array Value} (hσ : σ b = .live (.rows sz rs)) (hm : μ b = .at bb)
    (e1 : w.heap[bb]? = some (.cells c ty (lo, hi))) (e2 : hi ≤ lo) (e3 : rs.length * sz ≤ c.size) (e4 : ∀ r ∈ rs, r.length = sz)
    (e5 : ∀ (i : Nat) (r : List PV) (j : Nat) p, rs[i]? = some r → r[j]? = some p → ∃ y, c[i * sz + j]? = some y ∧ Rep w (OwnF F μ σ) μ p y)
    (hr : rs[i]? = some row) (hl : off + cs.length ≤ row.length) {vs : List Value} (hvl : vs.length = cs.length) (hv : ∀ (k : Nat) p z, cs[k]? = some p → vs[k]? = some z → Rep w (OwnF F μ σ) μ p z) :
    SRel Γ F (setBlk w bb (.cells (writeAt c (i * sz + off) vs) ty (lo, hi))) μ (upd σ b (.live (.rows sz (rs.set i (putRow row off cs))))) ∧
    Ext w (Own μ σ) (setBlk w bb (.cells (writeAt c (i * sz + off) vs) ty (lo, hi))) (Own μ (upd σ b (.live (.rows sz (rs.set i (putRow row off cs)))))) := by
  have hi' : i < rs.length := (List.getElem?_eq_some_iff.1 hr).1
  have hrow : row.length = sz := e4 row (List.mem_of_getElem? hr)
  have hfit : i * sz + off + cs.length ≤ c.size := by
    have : (i + 1) * sz ≤ rs.length * sz := Nat.mul_le_mul_right _ hi'
    rw [Nat.add_mul] at this
    omega
  have hshape : (setBlk w bb (.cells (writeAt c (i * sz + off) vs) ty (lo, hi))).shape? bb = w.shape? bb := by
    simp [World.shape?, setBlk_same (lt_of_heap e1), e1, writeAt_size]
  have hkeep : Keeps w (OwnF F μ σ) (setBlk w bb (.cells (writeAt c (i * sz + off) vs) ty (lo, hi))) (OwnF F μ σ) :=
    ⟨by rw [setBlk_size]; exact Nat.le_refl _, fun k _ hk => ⟨setBlk_ne fun e => hk (by subst e; exact .inr ⟨b, _, hσ, hm⟩), hk⟩⟩
  have hsh2 : ∀ k, k < w.heap.size → (setBlk w bb (.cells (writeAt c (i * sz + off) vs) ty (lo, hi))).shape? k = w.shape? k := fun k _ => by
    by_cases e : k = bb
    · subst e; exact hshape
    · simp only [World.shape?, setBlk_ne e]
  have lift : ∀ {p : PV} {z : Value}, Rep w (OwnF F μ σ) μ p z → Rep (setBlk w bb (.cells (writeAt c (i * sz + off) vs) ty (lo, hi))) (OwnF F μ σ) μ p z := fun h => h.mono hkeep hsh2 (MuExt.refl _)
  refine srel_set hs hσ hm hshape ⟨_, ty, lo, hi, setBlk_same (lt_of_heap e1), e2, by simpa [writeAt_size] using e3, fun r hr' => ?_, fun i' r j p g1 g2 => ?_⟩
  · rcases List.mem_or_eq_of_mem_set hr' with h | h
    · exact e4 r h
    · rw [h, putRow_length (by omega), hrow]
  · have hget := writeAt_get vs c (i * sz + off) (i' * sz + j) (by rw [hvl]; exact hfit)
    rw [hvl] at hget
    rw [hget]
    by_cases e : i' = i
    · subst e
      have : r = putRow row off cs := by
        rw [List.getElem?_set_self hi'] at g1
        exact (Option.some.inj g1).symm
      subst this
      rw [putRow_get (by omega)] at g2
      by_cases hj : off ≤ j ∧ j < off + cs.length
      · rw [if_pos hj] at g2
        rw [if_pos (by omega), show i' * sz + j - (i' * sz + off) = j - off from by omega]
        have hlt : j - off < vs.length := by omega
        exact ⟨vs[j - off], by simp [hlt], lift (hv (j - off) p _ g2 (by simp [hlt]))⟩
      · rw [if_neg hj] at g2
        rw [if_neg (by omega)]
        obtain ⟨z', hz1, hz2⟩ := e5 i' row j p hr g2
        exact ⟨z', hz1, lift hz2⟩
    · rw [List.getElem?_set_ne (Ne.symm e)] at g1
      obtain ⟨z', hz1, hz2⟩ := e5 i' r j p g1 g2
      have hrl : r.length = sz := e4 r (List.mem_of_getElem? g1)
      have hjl : j < sz := by rw [← hrl]; exact (List.getElem?_eq_some_iff.1 g2).1
      rw [if_neg (by
        rintro ⟨q1, q2⟩
        rcases Nat.lt_or_ge i' i with hlt | hge
        · have : (i' + 1) * sz ≤ i * sz := Nat.mul_le_mul_right _ hlt
          rw [Nat.add_mul] at this; omega
        · have : (i + 1) * sz ≤ i' * sz := Nat.mul_le_mul_right _ (by omega)
          rw [Nat.add_mul] at this; omega)]
      exact ⟨z', hz1, lift hz2⟩

theorem zeroCells_one {z : Value} (n : Nat) : (Builtin.zeroCells #[z] n).toList = List.replicate n z := by
  simp only [Builtin.zeroCells, Array.toList_map, Array.toList_range]
  apply List.ext_getElem?
  intro k
  simp only [List.size_toArray, List.length_cons, List.length_nil, Nat.zero_add, Nat.mul_one, List.getElem?_map, List.getElem?_replicate]
  by_cases hk : k < n
  · simp [hk, Nat.mod_one]
  · simp [hk]

theorem ok_clear_oa {o : Oper} {A : Nat → PV} {x : Operand} {ts : Array TypeId} {t e : TypeId} {sz b i off n : Nat} {rs : List (List PV)} {row : List PV} {z : Value} (ho : o.op = .call { callee := .builtin .clear, args := #[x], argTypes := ts }) (ht0 : ts[0]? = some t)
    (hu : P.underlying t = some (.slice e)) (hz : (P.info? e).bind (·.zero) = some z) (hzc : isCellV z = true) (hx : ev A x = .oa sz b i off n) (hr : rs[i]? = some row) (hl : off + n ≤ row.length) :
    OpOK Γ P o A ⟨.tup [], [(b, .live (.rows sz rs))], [(b, .live (.rows sz (rs.set i (putRow row off (List.replicate n (constCell z))))))]⟩ := by
  intro F μ σ a w hs ht hrd
  have e1 := ev_of ht (x := x) (by rw [ho]; simp [Op.operands, Call.operands])
  rw [hx] at e1
  have hσ : σ b = .live (.rows sz rs) := hrd (b, .live (.rows sz rs)) (List.mem_cons_self ..)
  have hB := hs.live b _ hσ
  obtain ⟨kc, hkc⟩ := run_builtin' (P := P) (ρ := a.eval) ho w
  rw [hkc]
  have hargs : (#[x] : Array Operand).map a.eval = #[a.eval x] := by simp
  rw [hargs]
  generalize hv : a.eval x = v at e1
  cases e1 with
  | pure h => cases h
  | oa _ _ _ _ _ bb cap hm hn hlen =>
    rw [hm] at hB
    obtain ⟨c, ty, lo, hi, g1, g2, g3, g4, g5⟩ := hB
    have hzcells : z.cells = #[z] := by cases z <;> first | rfl | (simp [isCellV] at hzc)
    have hi' : i < rs.length := (List.getElem?_eq_some_iff.1 hr).1
    have hrow : row.length = sz := g4 row (List.mem_of_getElem? hr)
    have hfit : i * sz + off + n ≤ c.size := by
      have : (i + 1) * sz ≤ rs.length * sz := Nat.mul_le_mul_right _ hi'
      rw [Nat.add_mul] at this
      omega
    have hst := run_storeCells (P := P) bb (i * sz + off) ty lo hi g2 (List.replicate n z) 0 c w g1 (by simp; omega) (fun q hq => by rw [(List.mem_replicate.1 hq).2]; exact hzc)
    rw [Nat.add_zero] at hst
    obtain ⟨k1, k2⟩ := good_store hs hσ hm g1 g2 g3 g4 g5 hr (cs := List.replicate n (constCell z)) (off := off) (by simpa using hl) (vs := List.replicate n z) (by simp)
      (fun k p q h1 h2 => by
        have hk : k < n := by have := (List.getElem?_eq_some_iff.1 h1).1; simpa using this
        simp [hk] at h1 h2
        subst h1 h2
        exact .pure (constCell_rep _ _ _))
    have hrun : (builtin .clear ts o.type kc #[Value.slice (some ⟨bb, i * sz + off, none⟩) n cap]).run P w = .ok (.value (.tuple #[])) (setBlk w bb (.cells (writeAt c (i * sz + off) (List.replicate n z)) ty (lo, hi))) := by
      simp only [builtin, Builtin.clear_, ht0, List.getElem?_toArray, List.getElem?_cons_zero, Sem.run_bind, run_underlying hu, Result.andThen]
      cases n with
      | zero =>
        have hw : setBlk w bb (.cells (writeAt c (i * sz + off) (List.replicate 0 z)) ty (lo, hi)) = w := by
          rw [List.replicate_zero] at hst ⊢
          simp only [storeCells, Sem.run_pure, Result.ok.injEq, true_and] at hst
          exact hst.symm
        rw [hw]; rfl
      | succ n =>
        simp only [Sem.run_bind, run_zeroValue hz, Result.andThen, hzcells, zeroCells_one]
        rw [hst]; rfl
    rw [hrun]
    exact ⟨μ, k1, .tup [] #[] rfl (fun i p y h => by simp at h), k2, MuExt.refl _⟩

end Go.Am
/- Maps from whole numbers to truths, of the call's own. -/
namespace Go.Am
set_option linter.unusedSimpArgs false
variable {Γ : Nat → Option Obj} {P : Program}

def mibGet : List (Int × Bool) → Int → Option Bool
  | [], _ => none
  | (a, b) :: r, k => if k = a then some b else mibGet r k
def mibPut : List (Int × Bool) → Int → Bool → List (Int × Bool)
  | [], k, v => [(k, v)]
  | (a, b) :: r, k, v => if k = a then (k, v) :: r else (a, b) :: mibPut r k v

abbrev entV (p : Int × Bool) : Value × Value := (.int .i64 p.1, .bool p.2)

theorem findNow_mib (k : Int) (v' : Bool) : ∀ (ents : List MapEntry) (es : List (Int × Bool)) (i : Nat), ents.map (fun e => (e.key, e.val)) = es.map entV →
    (mibGet es k = none ∧ Instr.findNow (.int .i64) (.int .i64 k) ents i = some none ∧ mibPut es k v' = es ++ [(k, v')]) ∨
    (∃ j v, mibGet es k = some v ∧ Instr.findNow (.int .i64) (.int .i64 k) ents i = some (some (i + j, .bool v)) ∧ (ents[j]?).map (·.key) = some (.int .i64 k) ∧
      (ents.modify j fun e => { e with key := .int .i64 k, val := .bool v' }).map (fun e => (e.key, e.val)) = (mibPut es k v').map entV)
  | [], [], i, _ => .inl ⟨rfl, rfl, rfl⟩
  | [], _ :: _, _, h => by simp at h
  | _ :: _, [], _, h => by simp at h
  | e :: ents, (a, b) :: es, i, h => by
    simp only [List.map_cons, List.cons.injEq, Prod.mk.injEq] at h
    obtain ⟨⟨h1, h2⟩, h3⟩ := h
    by_cases hk : k = a
    · subst hk
      refine .inr ⟨0, b, by simp [mibGet], ?_, by simp [h1], ?_⟩
      · simp [Instr.findNow, Instr.sameNow, h1, h2]
      · simp only [List.modify_zero_cons, List.map_cons, mibPut, if_true, h3]
    · have hs : Instr.findNow (.int .i64) (.int .i64 k) (e :: ents) i = Instr.findNow (.int .i64) (.int .i64 k) ents (i + 1) := by
        have : (k == a) = false := by simp [hk]
        simp [Instr.findNow, Instr.sameNow, h1, this]
      rcases findNow_mib k v' ents es (i + 1) h3 with ⟨g1, g2, g3⟩ | ⟨j, v, g1, g2, g3, g4⟩
      · exact .inl ⟨by simp [mibGet, hk, g1], by rw [hs, g2], by simp [mibPut, hk, g3]⟩
      · refine .inr ⟨j + 1, v, by simp [mibGet, hk, g1], by rw [hs, g2]; congr 3; omega, by simpa using g3, ?_⟩
        simp only [List.modify_succ_cons, List.map_cons, mibPut, hk, if_false, g4, h1, h2]

/-- A map type from int to bool. -/
def mfact (P : Program) (t : TypeId) : Bool :=
  match P.underlying t with
  | some (.map k e) => (match P.underlying k with | some (.int .i64) => true | _ => false) && (match (P.info? e).bind (·.zero) with | some (.bool false) => true | _ => false)
  | _ => false
theorem mfact_spec {t : TypeId} (h : mfact P t = true) : ∃ k e, P.underlying t = some (.map k e) ∧ P.underlying k = some (.int .i64) ∧ (P.info? e).bind (·.zero) = some (.bool false) := by
  unfold mfact at h
  split at h
  · rename_i k e hu
    simp only [Bool.and_eq_true] at h
    refine ⟨k, e, hu, ?_, ?_⟩
    · have := h.1
      split at this
      · assumption
      · cases this
    · have := h.2
      split at this
      · assumption
      · cases this
  · cases h

theorem ok_makeMap {o : Oper} {A : Nat → PV} {t : TypeId} {nx : Nat} (ho : o.op = .makeMap t none) :
    OpOK Γ P o A ⟨.om nx, [(nx, .fresh)], [(nx, .live (.mib []))]⟩ := by
  intro F μ σ a w hs ht hrd
  have hf : σ nx = .fresh := hrd (nx, .fresh) (List.mem_cons_self ..)
  have hrun : (execOp a.eval o).run P w = .ok (.value (.map (some w.heap.size))) (pushW w (.map #[] 0)) := by
    simp only [execOp, ho, Instr.makeMap]
    rfl
  rw [hrun]
  obtain ⟨k1, k2, k3⟩ := srel_new (B := .mib []) (o := .map #[] 0) hs hf ⟨#[], 0, pushW_new, rfl⟩
  exact ⟨_, k1, .om nx _ (upd_same _ _ _), k2, k3⟩

theorem run_getObj {w : World} {b : Nat} {ents : Array MapEntry} {clock : Nat} (h : w.heap[b]? = some (.map ents clock)) : (getObj b).run P w = .ok (.map ents clock) w := by
  simp [getObj, Sem.run, h]

theorem run_checkKey_int {k : TypeId} (hk : P.underlying k = some (.int .i64)) (e : Bool) (n : Int) (w : World) : (Instr.checkKey e 10000 k (.int .i64 n)).run P w = .ok () w := by
  have key : ∀ m : Nat, (Instr.checkKey e (m + 1) k (.int .i64 n)).run P w = .ok () w := fun m => by
    simp only [Instr.checkKey, Sem.run_bind, run_underlying hk, Result.andThen]
    rfl
  exact key 9999

theorem ok_lookup {o : Oper} {A : Nat → PV} {t : TypeId} {x y : Operand} {b : Nat} {n : Int} {es : List (Int × Bool)} (ho : o.op = .lookup t x y false) (hx : ev A x = .om b) (hy : ev A y = .v (.int .i64 n)) (hm : mfact P t = true) :
    OpOK Γ P o A ⟨.v (.bool ((mibGet es n).getD false)), [(b, .live (.mib es))], []⟩ :=
  .value fun F μ σ a w hs ht hrd => by
    have h1 := ev_of ht (x := x) (by rw [ho]; simp [Op.operands])
    have h2 := ev_of_v ht (x := y) (by rw [ho]; simp [Op.operands]) hy
    rw [hx] at h1
    have hσ : σ b = .live (.mib es) := hrd (b, .live (.mib es)) (List.mem_cons_self ..)
    obtain ⟨k, e, u1, u2, u3⟩ := mfact_spec hm
    generalize hz : a.eval x = z at h1
    cases h1 with
    | pure h => cases h
    | om _ bb hmu =>
      have hB := hs.live b _ hσ
      rw [hmu] at hB
      obtain ⟨ents, clock, e1, e2⟩ := hB
      refine ⟨.bool ((mibGet es n).getD false), ?_, .pure (.v _)⟩
      simp only [execOp, ho, hz, h2, Instr.lookup]
      simp only [Sem.run_bind, run_underlying u1, Result.andThen, run_getObj e1, Sem.run_pure, run_checkKey_int u2]
      rcases findNow_mib n false ents.toList es 0 e2 with ⟨g1, g2, _⟩ | ⟨j, v, g1, g2, _⟩
      · rw [MapKept.run_findKey u2 g2]
        simp only [Result.andThen, run_zeroValue u3, Sem.run_pure, Sem.run_bind, g1]
        rfl
      · rw [MapKept.run_findKey u2 g2]
        simp only [Result.andThen, Sem.run_pure, Sem.run_bind, g1]
        rfl

theorem ok_mapUpdate {o : Oper} {A : Nat → PV} {t : TypeId} {x y z : Operand} {b : Nat} {n : Int} {v : Bool} {es : List (Int × Bool)} (ho : o.op = .mapUpdate t x y z) (hx : ev A x = .om b) (hy : ev A y = .v (.int .i64 n)) (hz : ev A z = .v (.bool v)) (hm : mfact P t = true) :
    OpOK Γ P o A ⟨.any, [(b, .live (.mib es))], [(b, .live (.mib (mibPut es n v)))]⟩ := by
  intro F μ σ a w hs ht hrd
  have h1 := ev_of ht (x := x) (by rw [ho]; simp [Op.operands])
  have h2 := ev_of_v ht (x := y) (by rw [ho]; simp [Op.operands]) hy
  have h3 := ev_of_v ht (x := z) (by rw [ho]; simp [Op.operands]) hz
  rw [hx] at h1
  have hσ : σ b = .live (.mib es) := hrd (b, .live (.mib es)) (List.mem_cons_self ..)
  obtain ⟨k, e, u1, u2, u3⟩ := mfact_spec hm
  generalize hq : a.eval x = q at h1
  cases h1 with
  | pure h => cases h
  | om _ bb hmu =>
    have hB := hs.live b _ hσ
    rw [hmu] at hB
    obtain ⟨ents, clock, e1, e2⟩ := hB
    have hset : ∀ o', (setObj bb o').run P w = .ok () (setBlk w bb o') := fun o' => by
      simp [setObj, Sem.run, setBlk, e1]
    have fin : ∀ (ents' : Array MapEntry) (clock' : Nat), ents'.toList.map (fun e => (e.key, e.val)) = (mibPut es n v).map entV →
        Good Γ F μ σ w ⟨.any, [(b, .live (.mib es))], [(b, .live (.mib (mibPut es n v)))]⟩ undef (setBlk w bb (.map ents' clock')) := by
      intro ents' clock' he
      obtain ⟨k1, k2⟩ := srel_set (B' := .mib (mibPut es n v)) (o := .map ents' clock') hs hσ hmu (by simp [World.shape?, setBlk_same (lt_of_heap e1), e1]) ⟨ents', clock', setBlk_same (lt_of_heap e1), he⟩
      exact ⟨μ, k1, .any _, k2, MuExt.refl _⟩
    have hrun : ∃ w', (execOp a.eval o).run P w = .ok .skip w' ∧ Good Γ F μ σ w ⟨.any, [(b, .live (.mib es))], [(b, .live (.mib (mibPut es n v)))]⟩ undef w' := by
      simp only [execOp, ho, hq, h2, h3, Instr.mapUpdate]
      simp only [Sem.run_bind, run_underlying u1, Result.andThen, run_getObj e1, Sem.run_pure, run_checkKey_int u2]
      rcases findNow_mib n v ents.toList es 0 e2 with ⟨g1, g2, g3⟩ | ⟨j, v0, g1, g2, g3, g4⟩
      · rw [MapKept.run_findKey u2 g2]
        simp only [Result.andThen, Sem.run_pure, hset]
        refine ⟨_, rfl, fin _ _ ?_⟩
        rw [g3]
        simp [e2]
      · rw [MapKept.run_findKey u2 g2]
        have hkey : (Instr.keyThatStays ((ents[0 + j]?.map fun x => x.key).getD (.int .i64 n)) (.int .i64 n)).run P w = .ok (.int .i64 n) w := by
          have : (ents[0 + j]?.map fun x => x.key) = some (.int .i64 n) := by rw [Nat.zero_add]; simpa using g3
          rw [this]
          simp [Instr.keyThatStays, Instr.sameBits]
        simp only [Result.andThen, Sem.run_bind, hkey, hset, Sem.run_pure]
        refine ⟨_, rfl, fin _ _ ?_⟩
        rw [Nat.zero_add, Array.toList_modify]
        exact g4
    obtain ⟨w', r1, r2⟩ := hrun
    rw [r1]
    exact r2
end Go.Am
/- Regions as a run that can be reckoned. -/
namespace Go.Am
variable {Γ : Nat → Option Obj} {P : Program}

def binK (P : Program) (op : BinOp) (t : TypeId) (x y : Operand) (p q : PV) (K : PV → Prop) : Prop :=
  match toV p, toV q with
  | some (.agg a), some b => ∃ c, BinR P op t x y (.agg a) b c ∧ K (.v c)
  | some a, some b => match binS P op t x y a b with
    | some c => K (.v c)
    | none => False
  | _, _ => False

/-- A slice's element: its cells, its bytes, its zero cells. -/
def sfact (P : Program) (t : TypeId) : Option (Nat × Nat × List PV) :=
  match P.underlying t with
  | some (.slice e) => match tsz P e, tby P e, tzero P e with
    | some s, some b, some zs => if zs.length = s ∧ b ≠ 0 ∧ b ≤ 1024 then some (s, b, zs) else none
    | _, _, _ => none
  | _ => none

theorem sfact_spec {t : TypeId} {s b : Nat} {zs : List PV} (h : sfact P t = some (s, b, zs)) :
    ∃ e, P.underlying t = some (.slice e) ∧ tsz P e = some s ∧ tby P e = some b ∧ tzero P e = some zs ∧ zs.length = s ∧ b ≠ 0 ∧ b ≤ 1024 := by
  unfold sfact at h
  split at h
  · rename_i e hu
    split at h
    · rename_i s' b' zs' h1 h2 h3
      split at h
      · rename_i hc
        simp only [Option.some.injEq, Prod.mk.injEq] at h
        obtain ⟨rfl, rfl, rfl⟩ := h
        exact ⟨e, hu, h1, h2, h3, hc.1, hc.2.1, hc.2.2⟩
      · cases h
    · cases h
  · cases h

/-- .. its zero value, where that is one cell. -/
def zfact (P : Program) (t : TypeId) : Option Value :=
  match P.underlying t with
  | some (.slice e) => match (P.info? e).bind (·.zero) with
    | some z => if isCellV z = true then some z else none
    | none => none
  | _ => none

theorem zfact_spec {t : TypeId} {z : Value} (h : zfact P t = some z) : ∃ e, P.underlying t = some (.slice e) ∧ (P.info? e).bind (·.zero) = some z ∧ isCellV z = true := by
  unfold zfact at h
  split at h
  · rename_i e hu
    split at h
    · rename_i z' hz
      split at h
      · rename_i hc; cases h; exact ⟨e, hu, hz, hc⟩
      · cases h
    · cases h
  · cases h

def opK (Γ : Nat → Option Obj) (P : Program) (A : Nat → PV) (σ : Nat → Slot) (nx : Nat) (op : Op) (K : PV → List Nat → List (Nat × Slot) → Nat → Prop) : Prop :=
  match op with
  | .move x => K (ev A x) [] [] nx
  | .assign x => K (ev A x) [] [] nx
  | .pick c x y => match ev A c with
    | .v (.bool t) => K (cond t (ev A x) (ev A y)) [] [] nx
    | _ => False
  | .alloc t => match tzero P t with
    | some cs => σ nx = .fresh ∧ K (.op cs.length nx 0 0) [nx] [(nx, .live (.rows cs.length [cs]))] (nx + 1)
    | none => False
  | .box _ x => layable (ev A x) = true ∧ σ nx = .fresh ∧ K (.op (cellsOf (ev A x)).length nx 0 0) [nx] [(nx, .live (.rows (cellsOf (ev A x)).length [cellsOf (ev A x)]))] (nx + 1)
  | .build t parts => match tzero P t with
    | some zs => fieldsOK P t = true ∧ match fillA (plc P t) zs (parts.toList.map fun p => (p.1, ev A p.2)) with
      | some out => K (.agg out) [] [] nx
      | none => False
    | none => False
  | .load t x => match tsz P t, tag P t with
    | some n, some g => n ≠ 0 ∧ match ev A x with
      | .op sz b i off => match σ b with
        | .live (.rows sz' rs) => sz' = sz ∧ ∃ row, rs[i]? = some row ∧ off + n ≤ row.length ∧ K (ldV g row off n) [b] [] nx
        | _ => False
      | .ip cs => n ≤ cs.length ∧ K (ldV g cs 0 n) [] [] nx
      | _ => False
    | _, _ => False
  | .store t x y => match tsz P t, ev A x with
    | some n, .op sz b i off => match σ b with
      | .live (.rows sz' rs) => sz' = sz ∧ layable (ev A y) = true ∧ (cellsOf (ev A y)).all cellP = true ∧ (cellsOf (ev A y)).length = n ∧ ∃ row, rs[i]? = some row ∧ off + n ≤ row.length ∧
        K .any [b] [(b, .live (.rows sz (rs.set i (putRow row off (cellsOf (ev A y))))))] nx
      | _ => False
    | _, _ => False
  | .nilCheck x => match ev A x with
    | .op sz b i off => K (.op sz b i off) [] [] nx
    | .ip cs => K (.ip cs) [] [] nx
    | .fn (.func f) xs ys => K (.fn (.func f) xs ys) [] [] nx
    | _ => False
  | .binOp op t x y _ => binK P op t x y (ev A x) (ev A y) fun v => K v [] [] nx
  | .unOp op _ x => match toV (ev A x) with
    | some a => match sc P (Op.unary op a) with
      | some c => K (.v c) [] [] nx
      | none => False
    | none => False
  | .convert s d x => match toV (ev A x) with
    | some a => match sc P (convert s d a) with
      | some c => K (.v c) [] [] nx
      | none => False
    | none => False
  | .makeInterface t x => match P.underlying t with
    | some (.interface _) => False
    | some _ => K (.ifc t (ev A x)) [] [] nx
    | none => False
  | .makeFunc fn first caps => K (.fn fn (first.toList.map (ev A)) (caps.toList.map (ev A))) [] [] nx
  | .fieldAddr t x f => match fld P t f with
    | some (off, n, _) => n ≠ 0 ∧ match ev A x with
      | .op sz b i k => K (.op sz b i (k + off)) [] [] nx
      | .ip cs => K (.ip (cs.drop off)) [] [] nx
      | _ => False
    | none => False
  | .field t x f => match fld P t f, ev A x with
    | some (off, n, g), .agg cs => n ≠ 0 ∧ off + n ≤ cs.length ∧ K (if g then .agg ((cs.drop off).take n) else cs.getD off .any) [] [] nx
    | _, _ => False
  | .indexAddr t x ix => match ev A ix with
    | .v (.int _ i) => match ev A x with
      | .sl _ rows => match sel P t with
        | some s => 0 ≤ i ∧ ∃ row, rows[i.toNat]? = some row ∧ row.length = s ∧ K (.ip row) [] [] nx
        | none => False
      | .os sz b j n => match sel P t with
        | some s => s = sz ∧ 0 ≤ i ∧ i < n ∧ K (.op sz b (j + i.toNat) 0) [] [] nx
        | none => False
      | .oa sz b j off n => sel P t = some 1 ∧ 0 ≤ i ∧ i < n ∧ K (.op sz b j (off + i.toNat)) [] [] nx
      | .op sz b j off => match ael P t with
        | some (n, s) => 0 ≤ i ∧ i < n ∧ K (.op sz b j (off + i.toNat * s)) [] [] nx
        | none => False
      | .ip cs => match ael P t with
        | some (n, s) => 0 ≤ i ∧ i < n ∧ K (.ip (cs.drop (i.toNat * s))) [] [] nx
        | none => False
      | _ => False
    | _ => False
  | .index t x ix => match toV (ev A x), toV (ev A ix) with
    | some a, some b => match sc P (Instr.index t a b) with
      | some c => K (.v c) [] [] nx
      | none => False
    | _, _ => False
  | .extract x i => match ev A x with
    | .tup cs => match cs[i]? with
      | some p => K p [] [] nx
      | none => False
    | _ => False
  | .call { callee := .builtin .len, args := xs, argTypes := ts } => match xs.toList, ts[0]? with
    | [x], some t => (sel P t).isSome = true ∧ match lenP (ev A x) with
      | some n => K (.v (.int .i64 n)) [] [] nx
      | none => False
    | _, _ => False
  | .call { callee := .value f, args := xs, .. } => match ev A f with
    | .fn (.func g) first caps => CallK Γ P g (first ++ xs.toList.map (ev A) ++ caps) σ nx K .mk
    | _ => False
  | .buildSlice t len parts => match sfact P t with
    | some (s, _, zs) => len * s ≤ 16777216 ∧ len ≤ 140737488355328 ∧ match fillA (fun i => some (i * s, s)) (zfill zs len) (parts.toList.map fun p => (p.1, ev A p.2)) with
      | some out => if isPL out = true then K (.sl true (chunk s len out)) [] [] nx else σ nx = .fresh ∧ K (.os s nx 0 len) [nx] [(nx, .live (.rows s (chunk s len out)))] (nx + 1)
      | none => False
    | none => False
  | .slice t x lo hi mx => match ev A x with
    | .sl full rows => match sel P t, optI A lo, optI A hi, optI A mx with
      | some s, some lo', some hi', some mx' => bnds rows.length lo' hi' mx' (lo'.getD 0).toNat (hi'.getD rows.length).toNat ∧ (∀ r ∈ rows.head?, r.length = s) ∧
        K (.sl (mx'.isSome || full && hi'.isNone) ((rows.drop (lo'.getD 0).toNat).take ((hi'.getD rows.length).toNat - (lo'.getD 0).toNat))) [] [] nx
      | _, _, _, _ => False
    | .os sz b j n => match lo, optI A hi, optI A mx with
      | none, some hi', some mx' => sel P t = some sz ∧ bnds n none hi' mx' 0 (hi'.getD n).toNat ∧ K (.os sz b j (hi'.getD n).toNat) [] [] nx
      | _, _, _ => False
    | .op sz b j off => match lo, optI A hi, mx, ael P t with
      | none, some hi', none, some (n, 1) => n ≠ 0 ∧ n ≤ 1048576 ∧ bnds n none hi' none 0 (hi'.getD n).toNat ∧ K (.oa sz b j off (hi'.getD n).toNat) [] [] nx
      | _, _, _, _ => False
    | _ => False
  | .makeSlice t x y => match ev A x, ev A y, sfact P t with
    | .v (.int _ n), .v (.int _ m), some (s, _, zs) => m = n ∧ 0 ≤ n ∧ n ≤ 137438953472 ∧ σ nx = .fresh ∧ K (.os s nx 0 n.toNat) [nx] [(nx, .live (.rows s (List.replicate n.toNat zs)))] (nx + 1)
    | _, _, _ => False
  | .call { callee := .builtin .append, args := xs, argTypes := ts } => match xs.toList, ts[0]?, ts[1]? with
    | [x, y], some t, some t' => match sfact P t, sel P t', srcRows σ (ev A y) with
      | some (s, _, _), some _, some rows1 => (∀ r ∈ rows1, r.length = s) ∧ match ev A x with
        | .sl true rows => (∀ r ∈ rows, r.length = s) ∧ rows.length + rows1.length ≤ 68719476736 ∧ (rows = [] ∨ rows1 ≠ []) ∧ σ nx = .fresh ∧
          K (.os s nx 0 (rows.length + rows1.length)) (nx :: srcIds (ev A y)) [(nx, .live (.rows s (rows ++ rows1)))] (nx + 1)
        | .os s' b0 i0 n0 => match σ b0 with
          | .live (.rows s'' rows) => s' = s ∧ s'' = s ∧ i0 = 0 ∧ n0 = rows.length ∧ rows1.all (fun r => r.all cellP) = true ∧ rows.length + rows1.length ≤ 68719476736 ∧ σ nx = .fresh ∧
            K (.os s nx 0 (rows.length + rows1.length)) (nx :: b0 :: srcIds (ev A y)) [(nx, .live (.rows s (rows ++ rows1))), (b0, .dead)] (nx + 1)
          | _ => False
        | _ => False
      | _, _, _ => False
    | _, _, _ => False
  | .call { callee := .builtin .min, args := xs, argTypes := ts } => match vsOf (xs.toList.map (ev A)) with
    | some vs => match sc P (Builtin.min_ ts 0 vs.toArray) with
      | some c => K (.v c) [] [] nx
      | none => False
    | none => False
  | .call { callee := .builtin .max, args := xs, argTypes := ts } => match vsOf (xs.toList.map (ev A)) with
    | some vs => match sc P (Builtin.max_ ts 0 vs.toArray) with
      | some c => K (.v c) [] [] nx
      | none => False
    | none => False
  | .call { callee := .builtin .clear, args := xs, argTypes := ts } => match xs.toList, ts[0]? with
    | [x], some t => match zfact P t, ev A x with
      | some z, .oa sz b i off n => match σ b with
        | .live (.rows sz' rs) => sz' = sz ∧ ∃ row, rs[i]? = some row ∧ off + n ≤ row.length ∧ K (.tup []) [b] [(b, .live (.rows sz (rs.set i (putRow row off (List.replicate n (constCell z))))))] nx
        | _ => False
      | _, _ => False
    | _, _ => False
  | .makeMap _ r => match r with
    | none => σ nx = .fresh ∧ K (.om nx) [nx] [(nx, .live (.mib []))] (nx + 1)
    | some _ => False
  | .lookup t x y c => mfact P t = true ∧ c = false ∧ match ev A x, ev A y with
    | .om b, .v (.int .i64 n) => match σ b with
      | .live (.mib es) => K (.v (.bool ((mibGet es n).getD false))) [b] [] nx
      | _ => False
    | _, _ => False
  | .mapUpdate t x y z => mfact P t = true ∧ match ev A x, ev A y, ev A z with
    | .om b, .v (.int .i64 n), .v (.bool v) => match σ b with
      | .live (.mib es) => K .any [b] [(b, .live (.mib (mibPut es n v)))] nx
      | _ => False
    | _, _, _ => False
  | _ => False

theorem opK_ok {A : Nat → PV} {σ : Nat → Slot} {nx : Nat} {o : Oper} {K : PV → List Nat → List (Nat × Slot) → Nat → Prop} (h : opK Γ P A σ nx o.op K) :
    ∃ (r : Rec) (nx' : Nat), OpOK Γ P o A r ∧ (∀ p ∈ r.rd, σ p.1 = p.2) ∧ K r.val (r.rd.map (·.1)) r.wr nx' := by
  obtain ⟨dst, op, ty, pos, after, guard⟩ := o
  simp only at h
  unfold opK at h
  split at h
  · exact ⟨_, nx, ok_move rfl, by simp, h⟩
  · exact ⟨_, nx, ok_assign rfl, by simp, h⟩
  · split at h
    · rename_i hc; exact ⟨_, nx, ok_pick rfl hc, by simp, h⟩
    · exact h.elim
  · split at h
    · rename_i cs hz; exact ⟨_, nx + 1, ok_alloc (nx := nx) rfl hz, by simp [h.1], h.2⟩
    · exact h.elim
  · exact ⟨_, nx + 1, ok_box (nx := nx) rfl h.1, by simp [h.2.1], h.2.2⟩
  · split at h
    · rename_i zs hz
      obtain ⟨h1, h2⟩ := h
      split at h2
      · rename_i out ho; exact ⟨_, nx, ok_build rfl hz h1 ho, by simp, h2⟩
      · exact h2.elim
    · exact h.elim
  · split at h
    · rename_i n g hn hg
      obtain ⟨h0, h⟩ := h
      split at h
      · rename_i sz b i off hx
        split at h
        · rename_i sz' rs hσ
          obtain ⟨rfl, row, hr, hl, hK⟩ := h
          exact ⟨_, nx, ok_load_op rfl hx hn hg hr hl h0, by simp [hσ], hK⟩
        · exact h.elim
      · rename_i cs hx; exact ⟨_, nx, ok_load_ip rfl hx hn hg h.1 h0, by simp, h.2⟩
      · exact h.elim
    · exact h.elim
  · split at h
    · rename_i n sz b i off hn hx
      split at h
      · rename_i sz' rs hσ
        obtain ⟨rfl, hlay, hcell, hnl, row, hr, hl, hK⟩ := h
        exact ⟨_, nx, ok_store rfl hx rfl hlay hcell hn hnl hr hl, by simp [hσ], hK⟩
      · exact h.elim
    · exact h.elim
  · split at h
    · rename_i sz b i off hx; exact ⟨_, nx, ok_nilCheck rfl (.inl ⟨sz, b, i, off, hx⟩), by simp, by rw [hx]; exact h⟩
    · rename_i cs hx; exact ⟨_, nx, ok_nilCheck rfl (.inr (.inl ⟨cs, hx⟩)), by simp, by rw [hx]; exact h⟩
    · rename_i f xs ys hx; exact ⟨_, nx, ok_nilCheck rfl (.inr (.inr ⟨f, xs, ys, hx⟩)), by simp, by rw [hx]; exact h⟩
    · exact h.elim
  · unfold binK at h
    split at h
    · rename_i a b hx hy
      obtain ⟨c, hc, h⟩ := h
      exact ⟨_, nx, ok_binOp_run rfl hx hy hc, by simp, h⟩
    · rename_i a b _ hx hy
      split at h
      · rename_i c hc; exact ⟨_, nx, ok_binOp rfl hx hy hc, by simp, h⟩
      · exact h.elim
    · exact h.elim
  · split at h
    · rename_i a hx
      split at h
      · rename_i c hc; exact ⟨_, nx, ok_unOp rfl hx hc, by simp, h⟩
      · exact h.elim
    · exact h.elim
  · split at h
    · rename_i a hx
      split at h
      · rename_i c hc; exact ⟨_, nx, ok_convert rfl hx hc, by simp, h⟩
      · exact h.elim
    · exact h.elim
  · split at h
    · exact h.elim
    · rename_i d hno hd; exact ⟨_, nx, ok_makeInterface rfl hd (fun ms e => hno ms e), by simp, h⟩
    · exact h.elim
  · exact ⟨_, nx, ok_makeFunc rfl, by simp, h⟩
  · split at h
    · rename_i off n g hf
      obtain ⟨h0, h⟩ := h
      split at h
      · rename_i sz b i k hx; exact ⟨_, nx, ok_fieldAddr_op rfl hx hf h0, by simp, h⟩
      · rename_i cs hx; exact ⟨_, nx, ok_fieldAddr_ip rfl hx hf h0, by simp, h⟩
      · exact h.elim
    · exact h.elim
  · split at h
    · rename_i off n g cs hf hx; exact ⟨_, nx, ok_field rfl hx hf h.2.1 h.1, by simp, h.2.2⟩
    · exact h.elim
  · split at h
    · rename_i k i hi
      split at h
      · rename_i full rows hx
        split at h
        · rename_i s hs; obtain ⟨h0, row, hr, hl, hK⟩ := h; exact ⟨_, nx, ok_indexAddr_sl rfl hx hi hs h0 hr hl, by simp, hK⟩
        · exact h.elim
      · rename_i sz b j n hx
        split at h
        · rename_i s hs
          obtain ⟨rfl, h1, h2, h3⟩ := h
          exact ⟨_, nx, ok_indexAddr_os rfl hx hi hs h1 h2, by simp, h3⟩
        · exact h.elim
      · rename_i sz b j off n hx; exact ⟨_, nx, ok_indexAddr_oa rfl hx hi h.1 h.2.1 h.2.2.1, by simp, h.2.2.2⟩
      · rename_i sz b j off hx
        split at h
        · rename_i n s hs; exact ⟨_, nx, ok_indexAddr_op rfl hx hi hs h.1 h.2.1, by simp, h.2.2⟩
        · exact h.elim
      · rename_i cs hx
        split at h
        · rename_i n s hs; exact ⟨_, nx, ok_indexAddr_ip rfl hx hi hs h.1 h.2.1, by simp, h.2.2⟩
        · exact h.elim
      · exact h.elim
    · exact h.elim
  · split at h
    · rename_i a b hx hy
      split at h
      · rename_i c hc; exact ⟨_, nx, ok_index rfl hx hy hc, by simp, h⟩
      · exact h.elim
    · exact h.elim
  · split at h
    · rename_i cs hx
      split at h
      · rename_i p hp; exact ⟨_, nx, ok_extract rfl hx hp, by simp, h⟩
      · exact h.elim
    · exact h.elim
  · split at h
    · rename_i x t hxs ht
      have hxs := Array.toList_inj.1 (hxs.trans (show [x] = (#[x] : Array Operand).toList from rfl))
      subst hxs
      obtain ⟨hs, h⟩ := h
      obtain ⟨s, hs⟩ := Option.isSome_iff_exists.1 hs
      split at h
      · rename_i n hn; exact ⟨_, nx, ok_len rfl ht hs hn, by simp, h⟩
      · exact h.elim
    · exact h.elim
  · split at h
    · rename_i g first caps hf
      obtain ⟨r, nx', h1, h2, h3, _, h4⟩ := h
      exact ⟨r, nx', ok_call rfl hf h2 h1, h3, h4⟩
    · exact h.elim
  · split at h
    · rename_i s by' zs hsf
      obtain ⟨e, f1, f2, f3, f4, f5, f6, f7⟩ := sfact_spec hsf
      obtain ⟨g1, g2, h⟩ := h
      split at h
      · rename_i out ho
        split at h
        · rename_i hp; exact ⟨_, nx, ok_buildSlice rfl f1 f2 f4 f5 g1 ho hp g2, by simp, h⟩
        · exact ⟨_, nx + 1, ok_buildSlice_own (nx := nx) rfl f1 f2 f4 f5 g1 ho g2, by simp [h.1], h.2⟩
      · exact h.elim
    · exact h.elim
  · split at h
    · rename_i full rows hx
      split at h
      · rename_i s lo' hi' mx' h1 h2 h3 h4
        exact ⟨_, nx, ok_slice_sl rfl hx h1 h2 h3 h4 h.1 h.2.1, by simp, h.2.2⟩
      · exact h.elim
    · rename_i sz b j n hx
      split at h
      · rename_i hi' mx' h2 h3
        exact ⟨_, nx, ok_slice_os rfl hx h.1 h2 h3 h.2.1, by simp, h.2.2⟩
      · exact h.elim
    · rename_i sz b j off hx
      split at h
      · rename_i hi' n h2 h3
        exact ⟨_, nx, ok_slice_array rfl hx h3 h2 h.2.2.1 h.1 h.2.1, by simp, h.2.2.2⟩
      · exact h.elim
    · exact h.elim
  · split at h
    · rename_i k n k' m s by' zs hx hy hsf
      obtain ⟨rfl, g1, g2, g3, h⟩ := h
      obtain ⟨e, f1, f2, f3, f4, f5, f6, f7⟩ := sfact_spec hsf
      exact ⟨_, nx + 1, ok_makeSlice (nx := nx) rfl hx hy f1 f2 f3 f4 f5 g1 f7 g2, by simp [g3], h⟩
    · exact h.elim
  · split at h
    · rename_i x y t t' hxs ht ht'
      have hxs := Array.toList_inj.1 (hxs.trans (show [x, y] = (#[x, y] : Array Operand).toList from rfl))
      subst hxs
      split at h
      · rename_i s by' zs s2 rows1 hsf hsel hsrc
        obtain ⟨e, f1, f2, f3, f4, f5, f6, f7⟩ := sfact_spec hsf
        obtain ⟨e', f1', _⟩ := sel_spec hsel
        obtain ⟨g1, h⟩ := h
        split at h
        · rename_i rows hx
          obtain ⟨g2, g3, g4, g5, h⟩ := h
          refine ⟨_, nx + 1, ok_append_sl (nx := nx) (rd1 := (srcIds (ev A y)).map fun t => (t, σ t)) (σ0 := σ) rfl ht ht' f1 f1' f2 f3 f4 f5 hx hsrc (fun t ht => List.mem_map.2 ⟨t, ht, rfl⟩) g2 g1 f6 f7 g3 g4, ?_, ?_⟩
          · intro p hp
            rcases List.mem_cons.1 hp with rfl | hp
            · exact g5
            · obtain ⟨t, _, rfl⟩ := List.mem_map.1 hp; rfl
          · simpa [Function.comp_def] using h
        · rename_i s' b0 i0 n0 hx
          split at h
          · rename_i s'' rows hσ
            obtain ⟨rfl, rfl, rfl, rfl, g2, g3, g5, h⟩ := h
            refine ⟨_, nx + 1, ok_append_os (nx := nx) (rd1 := (srcIds (ev A y)).map fun t => (t, σ t)) (σ0 := σ) rfl ht ht' f1 f1' f2 f3 f4 f5 hx hσ rfl hsrc (fun t ht => List.mem_map.2 ⟨t, ht, rfl⟩) g1 g2 f6 f7 g3, ?_, ?_⟩
            · intro p hp
              rcases List.mem_cons.1 hp with rfl | hp
              · exact g5
              · rcases List.mem_cons.1 hp with rfl | hp
                · exact hσ
                · obtain ⟨t, _, rfl⟩ := List.mem_map.1 hp; rfl
            · simpa [Function.comp_def] using h
          · exact h.elim
        · exact h.elim
      · exact h.elim
    · exact h.elim
  · split at h
    · rename_i vs hv
      split at h
      · rename_i c hc; exact ⟨_, nx, ok_min rfl hv hc, by simp, h⟩
      · exact h.elim
    · exact h.elim
  · split at h
    · rename_i vs hv
      split at h
      · rename_i c hc; exact ⟨_, nx, ok_max rfl hv hc, by simp, h⟩
      · exact h.elim
    · exact h.elim
  · split at h
    · rename_i x t hxs ht
      have hxs := Array.toList_inj.1 (hxs.trans (show [x] = (#[x] : Array Operand).toList from rfl))
      subst hxs
      split at h
      · rename_i z sz b i off n hz hx
        obtain ⟨e, f1, f2, f3⟩ := zfact_spec hz
        split at h
        · rename_i sz' rs hσ
          obtain ⟨rfl, row, hr, hl, hK⟩ := h
          exact ⟨_, nx, ok_clear_oa rfl ht f1 f2 f3 hx hr hl, by simp [hσ], hK⟩
        · exact h.elim
      · exact h.elim
    · exact h.elim
  · rename_i t r
    split at h
    · exact ⟨_, _, ok_makeMap rfl, by simpa using h.1, h.2⟩
    · exact h.elim
  · rename_i t x y c
    obtain ⟨hm, hc, h⟩ := h
    subst hc
    split at h
    · rename_i b n hx hy
      split at h
      · rename_i es hσ
        exact ⟨_, nx, ok_lookup rfl hx hy hm, by simp [hσ], h⟩
      · exact h.elim
    · exact h.elim
  · rename_i t x y z
    obtain ⟨hm, h⟩ := h
    split at h
    · rename_i b n v hx hy hz
      split at h
      · rename_i es hσ
        exact ⟨_, nx, ok_mapUpdate rfl hx hy hz hm, by simp [hσ], h⟩
      · exact h.elim
    · exact h.elim
  · exact h.elim

def wantedD (ds : List (Option Tmp)) (g : Option (Nat × Bool)) (A : Nat → PV) : Option Bool :=
  match g with
  | none => some true
  | some (j, want) => match ds[j]? with
    | some (some d) => match A d with
      | .v (.bool b) => some (b == want)
      | .v (.tuple _) => some false
      | _ => none
    | _ => none

def RW (Γ : Nat → Option Obj) (P : Program) (ds : List (Option Tmp)) : List Oper → St → Nat → List (List Nat × List Nat) → (St → Nat → List (List Nat × List Nat) → Prop) → Prop
  | [], st, nx, log, K => K st nx log
  | o :: rest, st, nx, log, K => match wantedD ds o.guard st.a with
    | none => False
    | some b => if b = true then opK Γ P st.a st.σ nx o.op fun v rd wr nx' => RW Γ P ds rest ⟨put st.a o.dst v, wrAll st.σ wr⟩ nx' (log ++ [(rd, wr.map (·.1))]) K
      else RW Γ P ds rest ⟨put st.a o.dst pU, st.σ⟩ nx (log ++ [([], [])]) K

theorem wantedA_D (ops : Array Oper) (o : Oper) (A : Nat → PV) : wantedA ops o A = wantedD (ops.toList.map (·.dst)) o.guard A := by
  unfold wantedA wantedD
  cases o.guard with
  | none => rfl
  | some gw =>
    obtain ⟨j, want⟩ := gw
    simp only [List.getElem?_map, Array.getElem?_toList]
    cases ops[j]? with
    | none => rfl
    | some o' => simp only [Option.bind_some, Option.map_some]; cases o'.dst <;> rfl

/-- All temporaries that are written lie in the frame. -/
def dstB (N : Nat) (l : List Oper) : Bool := l.all fun o => match o.dst with
  | some d => decide (d < N)
  | none => true

theorem RW_run {N : Nat} {ops : Array Oper} {K : St → Nat → List (List Nat × List Nat) → Prop} : ∀ (l : List Oper) (st : St) (nx : Nat) (log : List (List Nat × List Nat)), dstB N l = true →
    RW Γ P (ops.toList.map (·.dst)) l st nx log K → ∃ st' nx' log', K st' nx' log' ∧ log'.take log.length = log ∧ log'.length = log.length + l.length ∧
      ∀ fp : Nat → List Nat × List Nat, (∀ i, i < log'.length → fp i = log'.getD i ([], [])) → RunA Γ P N ops fp (fun s => s = st') l log.length st := by
  intro l
  induction l with
  | nil => intro st nx log _ h; exact ⟨st, nx, log, h, by simp, by simp, fun _ _ => rfl⟩
  | cons o rest ih =>
    intro st nx log hd h
    simp only [dstB, List.all_cons, Bool.and_eq_true] at hd
    have hd1 : ∀ d, o.dst = some d → d < N := fun d hd' => by have := hd.1; rw [hd'] at this; simpa using this
    unfold RW at h
    rw [← wantedA_D] at h
    split at h
    · exact h.elim
    · rename_i b hw
      split at h
      · rename_i hb
        subst hb
        obtain ⟨r, nx', hok, hrd, hK⟩ := opK_ok h
        obtain ⟨st', nx2, log', h1, h2, h3, h4⟩ := ih _ _ _ hd.2 hK
        refine ⟨st', nx2, log', h1, ?_, by simp at h3; simp; omega, fun fp hfp => ⟨.did r, ⟨hd1, hw, hok, hrd, ?_⟩, ?_⟩⟩
        · have := congrArg (List.take log.length) h2
          rw [List.take_take] at this
          simpa using this
        · have e : fp log.length = (r.rd.map (·.1), r.wr.map (·.1)) := by
            rw [hfp _ (by simp at h3; omega)]
            have := congrArg (fun l => l.getD log.length ([], [])) h2
            simp only [List.getD_eq_getElem?_getD, List.getElem?_take] at this
            simp at this
            simpa using this
          rw [e]
          exact ⟨fun p hp => List.mem_map.2 ⟨p, hp, rfl⟩, fun p hp => List.mem_map.2 ⟨p, hp, rfl⟩⟩
        · have := h4 fp hfp
          rw [List.length_append] at this
          exact this
      · rename_i hb
        have hb' : b = false := by simpa using hb
        subst hb'
        obtain ⟨st', nx2, log', h1, h2, h3, h4⟩ := ih _ _ _ hd.2 h
        refine ⟨st', nx2, log', h1, ?_, by simp at h3; simp; omega, fun fp hfp => ⟨.skip, ⟨hd1, hw⟩, ?_⟩⟩
        · have := congrArg (List.take log.length) h2
          rw [List.take_take] at this
          simpa using this
        · have := h4 fp hfp
          rw [List.length_append] at this
          exact this

theorem RunA.mono {N : Nat} {ops : Array Oper} {fp : Nat → List Nat × List Nat} {K K' : St → Prop} (h : ∀ s, K s → K' s) : ∀ (l : List Oper) (i : Nat) (st : St), RunA Γ P N ops fp K l i st → RunA Γ P N ops fp K' l i st
  | [], _, _, hr => h _ hr
  | _ :: rest, i, _, ⟨e, hv, hr⟩ => ⟨e, hv, RunA.mono h rest (i + 1) _ hr⟩

/-- A region whose order is the text's. -/
theorem AW_text {N pin nx : Nat} {id : Nat} {l : List Oper} {Q : Exit → St → Prop} {st : St} (hd : dstB N l = true)
    (h : RW Γ P (l.map (·.dst)) l st nx [] (fun st' _ _ => Q .normal st')) : AW Γ P N pin (.region id l.toArray false) Q st := by
  obtain ⟨st', nx', log', h1, _, h3, h4⟩ := RW_run (N := N) (ops := l.toArray) l st nx [] hd (by simpa using h)
  exact AW_region_text ((h4 (fun i => log'.getD i ([], [])) fun i _ => rfl).mono (fun s hs => by rw [hs]; exact h1) l 0 st)

/-- A region that draws its order. -/
theorem AW_draw {N pin nx : Nat} (hm : P.follows .mixedOrders = true) {id : Nat} {l : List Oper} {Q : Exit → St → Prop} {st : St} (hd : dstB N l = true) (hB : Region.lexB .any l.toArray = true)
    (h : RW Γ P (l.map (·.dst)) l st nx [] (fun st' _ log => fpB l.toArray log = true ∧ Q .normal st')) : AW Γ P N pin (.region id l.toArray true) Q st := by
  obtain ⟨st', nx', log', h1, _, h3, h4⟩ := RW_run (N := N) (ops := l.toArray) l st nx [] hd (by simpa using h)
  exact AW_region_any hm hB h1.1 ((h4 (fun i => log'.getD i ([], [])) fun i _ => rfl).mono (fun s hs => by rw [hs]; exact h1.2) l 0 st)

end Go.Am
/- A step's weakest precondition grows with what is asked behind it. -/
namespace Go.Am
variable {Γ : Nat → Option Obj} {P : Program}

theorem binK_mono {op : BinOp} {t : TypeId} {x y : Operand} {p q : PV} {K K' : PV → Prop} (hK : ∀ v, K v → K' v) : binK P op t x y p q K → binK P op t x y p q K' := by
  unfold binK
  repeat' split
  all_goals first
    | exact fun ⟨c, h1, h2⟩ => ⟨c, h1, hK _ h2⟩
    | exact hK _
    | exact id

theorem CallK_mono {g : FuncId} {args : List PV} {σ : Nat → Slot} {nx : Nat} {K K' : PV → List Nat → List (Nat × Slot) → Nat → Prop} (hK : ∀ v rd wr n, K v rd wr n → K' v rd wr n) :
    CallK Γ P g args σ nx K .mk → CallK Γ P g args σ nx K' .mk := fun ⟨r, n, h1, h2, h3, h4, h5⟩ => ⟨r, n, h1, h2, h3, h4, hK _ _ _ _ h5⟩

theorem opK_mono {A : Nat → PV} {σ : Nat → Slot} {nx : Nat} {op : Op} {K K' : PV → List Nat → List (Nat × Slot) → Nat → Prop} (h : opK Γ P A σ nx op K) (hK : ∀ v rd wr n, K v rd wr n → K' v rd wr n) :
    opK Γ P A σ nx op K' := by
  revert h
  unfold opK
  repeat' split
  all_goals first
    | exact hK _ _ _ _
    | exact id
    | exact fun h => ⟨h.1, hK _ _ _ _ h.2⟩
    | exact fun h => ⟨h.1, h.2.1, hK _ _ _ _ h.2.2⟩
    | exact fun h => ⟨h.1, h.2.1, h.2.2.1, hK _ _ _ _ h.2.2.2⟩
    | exact fun h => ⟨h.1, h.2.1, h.2.2.1, h.2.2.2.1, hK _ _ _ _ h.2.2.2.2⟩
    | exact fun h => ⟨h.1, h.2.1, h.2.2.1, h.2.2.2.1, h.2.2.2.2.1, hK _ _ _ _ h.2.2.2.2.2⟩
    | exact fun h => ⟨h.1, h.2.1, h.2.2.1, h.2.2.2.1, h.2.2.2.2.1, h.2.2.2.2.2.1, hK _ _ _ _ h.2.2.2.2.2.2⟩
    | exact fun h => ⟨h.1, h.2.1, h.2.2.1, h.2.2.2.1, h.2.2.2.2.1, h.2.2.2.2.2.1, h.2.2.2.2.2.2.1, hK _ _ _ _ h.2.2.2.2.2.2.2⟩
    | exact fun h => ⟨h.1, h.2.1, h.2.2.1, h.2.2.2.1, h.2.2.2.2.1, h.2.2.2.2.2.1, h.2.2.2.2.2.2.1, h.2.2.2.2.2.2.2.1, hK _ _ _ _ h.2.2.2.2.2.2.2.2⟩
    | exact fun h => binK_mono (fun v => hK v _ _ _) h
    | exact CallK_mono hK
    | exact fun ⟨h1, row, h2, h3, h4⟩ => ⟨h1, row, h2, h3, hK _ _ _ _ h4⟩
    | exact fun ⟨h0, h1, row, h2, h3, h4⟩ => ⟨h0, h1, row, h2, h3, hK _ _ _ _ h4⟩
    | exact fun ⟨h0, h1, h5, h6, row, h2, h3, h4⟩ => ⟨h0, h1, h5, h6, row, h2, h3, hK _ _ _ _ h4⟩
    | (refine fun h => ⟨h.1, ?_⟩; have h := h.2; revert h; repeat' split
       all_goals first
        | exact id
        | exact hK _ _ _ _
        | exact fun h => ⟨h.1, hK _ _ _ _ h.2⟩
        | exact fun h => ⟨h.1, h.2.1, hK _ _ _ _ h.2.2⟩
        | exact fun ⟨h1, row, h2, h3, h4⟩ => ⟨h1, row, h2, h3, hK _ _ _ _ h4⟩
        | exact fun h => ⟨h.1, h.2.1, h.2.2.1, h.2.2.2.1, hK _ _ _ _ h.2.2.2.2⟩
        | exact fun h => ⟨h.1, h.2.1, h.2.2.1, h.2.2.2.1, h.2.2.2.2.1, h.2.2.2.2.2.1, h.2.2.2.2.2.2.1, hK _ _ _ _ h.2.2.2.2.2.2.2⟩)
    | (refine fun h => ⟨h.1, h.2.1, ?_⟩; have h := h.2.2; revert h; repeat' split
       all_goals first
        | exact id
        | exact hK _ _ _ _
        | exact fun h => ⟨h.1, hK _ _ _ _ h.2⟩)
end Go.Am
/- A state told anew with fewer temporaries and blocks, under new numbers. -/
namespace Go.Am
variable {Γ : Nat → Option Obj} {P : Program}

def ofA : List (Nat × PV) → Nat → PV
  | [] => fun _ => .any
  | (t, p) :: r => upd (ofA r) t p

def fun? (ids : List Nat) (i : Nat) : Nat := ids.getD i 0

def SubA (f : Nat → Nat) (k : Nat) (A : Nat → PV) : List (Nat × PV) → Prop
  | [] => True
  | (t, p) :: r => A t = ren f p ∧ okI k p = true ∧ SubA f k A r

def SubS (f : Nat → Nat) (k : Nat) (σ : Nat → Slot) : Nat → List (Option Blk) → Prop
  | _, [] => True
  | i, none :: r => SubS f k σ (i + 1) r
  | i, some B :: r => σ (f i) = .live (renB f B) ∧ okB k B = true ∧ SubS f k σ (i + 1) r

theorem SubS_spec {f : Nat → Nat} {k : Nat} {σ : Nat → Slot} : ∀ (l : List (Option Blk)) (i : Nat), SubS f k σ i l → ∀ (j : Nat) B, l[j]? = some (some B) → σ (f (i + j)) = .live (renB f B) ∧ okB k B = true
  | [], _, _, j, B, h => by simp at h
  | none :: r, i, hs, 0, B, h => by simp at h
  | some B' :: r, i, hs, 0, B, h => by simp at h; subst h; exact ⟨hs.1, hs.2.1⟩
  | none :: r, i, hs, j + 1, B, h => by
    have := SubS_spec r (i + 1) hs j B (by simpa using h)
    rwa [show i + 1 + j = i + (j + 1) from by omega] at this
  | some _ :: r, i, hs, j + 1, B, h => by
    have := SubS_spec r (i + 1) hs.2.2 j B (by simpa using h)
    rwa [show i + 1 + j = i + (j + 1) from by omega] at this

theorem weak_sub {pin : Nat} {st : St} (ids : List Nat) (A2 : List (Nat × PV)) (s2 : List (Option Blk)) (hk : ids.length = s2.length) (hnd : ids.Nodup)
    (hpin : pin ≤ ids.length ∧ ∀ i, i < pin → ids[i]? = some i) (hS : SubS (fun? ids) ids.length st.σ 0 s2) (hA : SubA (fun? ids) ids.length st.a A2) : Weak Γ pin st ⟨ofA A2, ofO s2⟩ := by
  intro F N μ a w hr
  let μ2 : Nat → Mu := fun i => if i < ids.length then μ (fun? ids i) else .no
  have hlive : ∀ i B, ofO s2 i = .live B → i < ids.length ∧ st.σ (fun? ids i) = .live (renB (fun? ids) B) ∧ okB ids.length B = true := by
    intro i B h
    unfold ofO at h
    split at h
    · rename_i B' hB'
      cases h
      have h1 := SubS_spec s2 0 hS i B hB'
      rw [Nat.zero_add] at h1
      exact ⟨by rw [hk]; exact (List.getElem?_eq_some_iff.1 hB').1, h1⟩
    · cases h
    · cases h
  have hμ : ∀ t, t < ids.length → μ2 t = μ (fun? ids t) := fun t ht => by simp only [μ2, ht, if_true]
  have hown : ∀ b, Own μ2 (ofO s2) b → Own μ st.σ b := by
    rintro b ⟨i, B, hi, hm⟩
    obtain ⟨h1, h2, _⟩ := hlive i B hi
    exact ⟨_, _, h2, by rw [← hμ i h1]; exact hm⟩
  have hO : ∀ b, OwnF F μ2 (ofO s2) b → OwnF F μ st.σ b := fun b hb => hb.imp id (hown b)
  refine ⟨μ2, ⟨hr.tsz, hr.dfs, fun t => ?_, ⟨fun t ht => ?_, fun t B ht => ?_, ?_, ?_, hr.sto.ffin, fun b o hb => ⟨(hr.sto.gam b o hb).1, fun h => (hr.sto.gam b o hb).2 (hO b h)⟩⟩⟩, hown, fun t ht hn => ?_⟩
  · show Rep w (OwnF F μ2 (ofO s2)) μ2 (ofA A2 t) _
    have key : ∀ (l : List (Nat × PV)), SubA (fun? ids) ids.length st.a l → Rep w (OwnF F μ2 (ofO s2)) μ2 (ofA l t) (a.tmps.getD t undef) := by
      intro l
      induction l with
      | nil => intro _; exact .any _
      | cons q l ih =>
        obtain ⟨u, p⟩ := q
        intro h
        simp only [ofA, upd]
        split
        · rename_i e
          subst e
          exact ren_in hO hμ (hr.tmp t) p h.1 h.2.1
        · exact ih h.2.2
    exact key A2 hA
  · show μ2 t = .no
    have : ¬ t < ids.length := fun hlt => by
      rw [hk] at hlt
      have ht' : ofO s2 t = .fresh := ht
      unfold ofO at ht'
      rw [List.getElem?_eq_getElem hlt] at ht'
      cases hq : s2[t] <;> rw [hq] at ht' <;> cases ht'
    simp only [μ2, this, if_false]
  · show BRep w (OwnF F μ2 (ofO s2)) μ2 B (μ2 t)
    obtain ⟨h1, h2, h3⟩ := hlive t B ht
    have := hr.sto.live _ _ h2
    rw [hμ t h1]
    exact brep_in hO hμ this h3
  · intro t u B B' b ht hu h1 h2
    obtain ⟨t1, t2, _⟩ := hlive t B ht
    obtain ⟨u1, u2, _⟩ := hlive u B' hu
    have h1' : μ (fun? ids t) = .at b := by rw [← hμ t t1]; exact h1
    have h2' : μ (fun? ids u) = .at b := by rw [← hμ u u1]; exact h2
    have := hr.sto.inj _ _ _ _ b t2 u2 h1' h2'
    unfold fun? at this
    rw [List.getD_eq_getElem?_getD, List.getD_eq_getElem?_getD, List.getElem?_eq_getElem t1, List.getElem?_eq_getElem u1] at this
    exact (List.getElem_inj hnd).1 this
  · intro t B b ht hm
    obtain ⟨t1, t2, _⟩ := hlive t B ht
    exact hr.sto.notF _ _ b t2 (by rw [← hμ t t1]; exact hm)
  · show μ2 t = μ t
    rw [hμ t (Nat.lt_of_lt_of_le ht hpin.1)]
    unfold fun?
    rw [List.getD_eq_getElem?_getD, hpin.2 t ht]; rfl

theorem AW_seq_k {N pin : Nat} {x y : Code} {Q : Exit → St → Prop} {st : St} (h : ∀ K : St → Prop, (∀ s, AW Γ P N pin y Q s → K s) → AW Γ P N pin x (SeqQ K Q) st) : AW Γ P N pin (.seq x y) Q st :=
  AW_seq (h _ fun _ h => h)

theorem AW_text_k {N pin nx : Nat} {id : Nat} {l : List Oper} {K : St → Prop} {Q : Exit → St → Prop} {st : St} (hd : dstB N l = true)
    (h : RW Γ P (l.map (·.dst)) l st nx [] (fun st' _ _ => K st')) : AW Γ P N pin (.region id l.toArray false) (SeqQ K Q) st :=
  AW_text hd h

theorem AW_draw_k {N pin nx : Nat} (hm : P.follows .mixedOrders = true) {id : Nat} {l : List Oper} {K : St → Prop} {Q : Exit → St → Prop} {st : St} (hd : dstB N l = true) (hB : Region.lexB .any l.toArray = true)
    (h : RW Γ P (l.map (·.dst)) l st nx [] (fun st' _ log => fpB l.toArray log = true ∧ K st')) : AW Γ P N pin (.region id l.toArray true) (SeqQ K Q) st :=
  AW_draw hm hd hB h

/-- A loop, with what holds at every round's head. -/
theorem AW_loopI {N pin : Nat} {α : Type} {body : Code} {Q : Exit → St → Prop} {st : St} (S : α → St) (I : α → Prop) (m : α → Nat) (x0 : α) (hI : I x0) (h0 : Weak Γ pin st (S x0))
    (round : ∀ x, I x → AW Γ P N pin body (SeqQ (fun st' => ∃ y, I y ∧ m y < m x ∧ Weak Γ pin st' (S y)) Q) (S x)) : AW Γ P N pin (.loop body) Q st :=
  AW_loop (α := {x // I x}) (fun x => S x.1) (fun x => m x.1) ⟨x0, hI⟩ h0 fun x => (round x.1 x.2).mono fun e st' h => by
    cases e with
    | normal => obtain ⟨y, h1, h2, h3⟩ := h; exact ⟨⟨y, h1⟩, h3, h2⟩
    | _ => exact h

/-! ### Operations on numbers and truths, as the run reckons them -/
section
variable {t : TypeId} {x y : Operand} {k : IntKind} {a b : Int}
theorem bin_add : binS P .add t x y (.int k a) (.int k b) = some (.int k (k.wrap (a + b))) := by simp [binS, eqGuard, sc_pure, binOp, Op.intArith]
theorem bin_sub : binS P .sub t x y (.int k a) (.int k b) = some (.int k (k.wrap (a - b))) := by simp [binS, eqGuard, sc_pure, binOp, Op.intArith]
theorem bin_mul : binS P .mul t x y (.int k a) (.int k b) = some (.int k (k.wrap (a * b))) := by simp [binS, eqGuard, sc_pure, binOp, Op.intArith]
theorem bin_lss : binS P .lss t x y (.int k a) (.int k b) = some (.bool (decide (a < b))) := by simp [binS, eqGuard, sc_pure, binOp, Op.intCmp]
theorem bin_leq : binS P .leq t x y (.int k a) (.int k b) = some (.bool (decide (a ≤ b))) := by simp [binS, eqGuard, sc_pure, binOp, Op.intCmp]
theorem bin_gtr : binS P .gtr t x y (.int k a) (.int k b) = some (.bool (decide (b < a))) := by simp [binS, eqGuard, sc_pure, binOp, Op.intCmp]
theorem bin_geq : binS P .geq t x y (.int k a) (.int k b) = some (.bool (decide (b ≤ a))) := by simp [binS, eqGuard, sc_pure, binOp, Op.intCmp]
theorem bin_eql : binS P .eql t x y (.int k a) (.int k b) = some (.bool (a == b)) := by simp [binS, eqGuard, sc_pure, binOp, Op.intCmp]
theorem bin_neq : binS P .neq t x y (.int k a) (.int k b) = some (.bool (a != b)) := by simp [binS, eqGuard, sc_pure, binOp, Op.intCmp]
theorem un_not {c : Bool} : sc P (Op.unary .not (.bool c)) = some (.bool !c) := rfl
end

attribute [go_sem ↓] RW opK
attribute [go_sem] wantedD ev put wrAll constPV constCell ofA upd binK toV vOf vsOf lenP ldV cellsOf layable cellP isCellV isP isPL putRow fillA ren renL renB okI okL okB SubA SubS fun? entry SeqQ BlockQ
  bin_add bin_sub bin_mul bin_lss bin_leq bin_gtr bin_geq bin_eql bin_neq un_not
attribute [go_sem] List.map_cons List.map_nil List.getElem?_cons_zero List.getElem?_cons_succ List.getElem?_nil List.getElem?_toArray List.getD_cons_zero List.getD_cons_succ List.getD_nil List.length_cons List.length_nil List.length_map
  Option.isSome_some true_and and_true List.append_nil List.nil_append List.cons_append if_true if_false beq_self_eq_true cond_true cond_false Option.map_some Bool.not_true Bool.not_false

end Go.Am
/- A call that works on blocks that it is handed; how such a function ends. -/
namespace Go.Am
variable {Γ : Nat → Option Obj} {P : Program}

def rdOf (f : Nat → Nat) : Nat → List Blk → List (Nat × Slot)
  | _, [] => []
  | i, B :: r => (f i, .live (renB f B)) :: rdOf f (i + 1) r
def frOf (f : Nat → Nat) : Nat → Nat → List (Nat × Slot)
  | _, 0 => []
  | i, n + 1 => (f i, .fresh) :: frOf f (i + 1) n
def wrOf (f : Nat → Nat) : Nat → List (Option Blk) → List (Nat × Slot)
  | _, [] => []
  | i, some B :: r => (f i, .live (renB f B)) :: wrOf f (i + 1) r
  | i, none :: r => (f i, .dead) :: wrOf f (i + 1) r

theorem rdOf_mem {f : Nat → Nat} : ∀ (l : List Blk) (i j : Nat) (B : Blk), l[j]? = some B → (f (i + j), Slot.live (renB f B)) ∈ rdOf f i l
  | [], i, j, B, h => by simp at h
  | B' :: r, i, 0, B, h => by simp at h; subst h; exact List.mem_cons_self ..
  | _ :: r, i, j + 1, B, h => by
    have := rdOf_mem (f := f) r (i + 1) j B (by simpa using h)
    rw [show i + 1 + j = i + (j + 1) from by omega] at this
    exact List.mem_cons_of_mem _ this
theorem frOf_mem {f : Nat → Nat} : ∀ (n i j : Nat), j < n → (f (i + j), Slot.fresh) ∈ frOf f i n
  | 0, i, j, h => by omega
  | n + 1, i, 0, _ => List.mem_cons_self ..
  | n + 1, i, j + 1, h => by
    have := frOf_mem (f := f) n (i + 1) j (by omega)
    rw [show i + 1 + j = i + (j + 1) from by omega] at this
    exact List.mem_cons_of_mem _ this

theorem wrOf_ids {f : Nat → Nat} : ∀ (l : List (Option Blk)) (i : Nat), ∀ p ∈ wrOf f i l, ∃ j, j < l.length ∧ p.1 = f (i + j)
  | [], i, p, h => by cases h
  | some B :: r, i, p, h => by
    rcases List.mem_cons.1 h with rfl | h
    · exact ⟨0, by simp, rfl⟩
    · obtain ⟨j, h1, h2⟩ := wrOf_ids r (i + 1) p h
      exact ⟨j + 1, by simpa using h1, by rw [h2]; congr 1; omega⟩
  | none :: r, i, p, h => by
    rcases List.mem_cons.1 h with rfl | h
    · exact ⟨0, by simp, rfl⟩
    · obtain ⟨j, h1, h2⟩ := wrOf_ids r (i + 1) p h
      exact ⟨j + 1, by simpa using h1, by rw [h2]; congr 1; omega⟩

theorem wrOf_get {f : Nat → Nat} (σ : Nat → Slot) : ∀ (l : List (Option Blk)) (i j : Nat), (∀ a b, i ≤ a → a < i + l.length → i ≤ b → b < i + l.length → f a = f b → a = b) → j < l.length →
    wrAll σ (wrOf f i l) (f (i + j)) = (match l[j]? with | some (some B) => .live (renB f B) | _ => .dead)
  | [], i, j, _, h => by simp at h
  | o :: r, i, 0, hinj, h => by cases o <;> simp [wrOf, wrAll, upd_same]
  | o :: r, i, j + 1, hinj, h => by
    have hne : f (i + (j + 1)) ≠ f i := fun e => by
      have := hinj (i + (j + 1)) i (by omega) (by simp at h ⊢; omega) (Nat.le_refl _) (by simp) e
      omega
    have ih := wrOf_get σ r (i + 1) j (fun a b h1 h2 h3 h4 => hinj a b (by omega) (by simp; omega) (by omega) (by simp; omega)) (by simpa using h)
    rw [show i + 1 + j = i + (j + 1) from by omega] at ih
    cases o <;> simp only [wrOf, wrAll, upd_ne _ _ hne, ih, List.getElem?_cons_succ]

theorem callOK_ec {g : FuncId} {args0 args : List PV} {s0 : List Blk} {r0 : PV} {s1 : List (Option Blk)} (h : EC Γ P g args0 s0 r0 s1) (ids : List Nat) (hk : s0.length ≤ s1.length) (hlen : ids.length = s1.length) (hnd : ids.Nodup)
    (hoka : okL s0.length args0 = true) (hokb : s0.all (okB s0.length) = true) (hargs : args = renL (fun? ids) args0) :
    CallOK Γ P g args ⟨ren (fun? ids) r0, rdOf (fun? ids) 0 s0 ++ frOf (fun? ids) s0.length (s1.length - s0.length), wrOf (fun? ids) 0 s1⟩ := by
  subst hargs
  intro F μ σ w cargs hs ha hrd
  generalize hf : fun? ids = f at *
  have finj : ∀ a b, a < ids.length → b < ids.length → f a = f b → a = b := by
    intro a b h1 h2 e
    rw [← hf] at e
    unfold fun? at e
    rw [List.getD_eq_getElem?_getD, List.getD_eq_getElem?_getD, List.getElem?_eq_getElem h1, List.getElem?_eq_getElem h2] at e
    exact (List.getElem_inj hnd).1 e
  have fmem : ∀ a, a < ids.length → f a ∈ ids ∧ ids.idxOf (f a) = a := by
    intro a h1
    rw [← hf]
    unfold fun?
    rw [List.getD_eq_getElem?_getD, List.getElem?_eq_getElem h1]
    exact ⟨List.getElem_mem h1, hnd.idxOf_getElem a h1⟩
  have fidx : ∀ t, t ∈ ids → ids.idxOf t < ids.length ∧ f (ids.idxOf t) = t := by
    intro t ht
    have h1 := List.idxOf_lt_length_of_mem ht
    refine ⟨h1, ?_⟩
    rw [← hf]
    unfold fun?
    rw [List.getD_eq_getElem?_getD, List.getElem?_eq_getElem h1]
    exact List.getElem_idxOf h1
  have hkl : s0.length ≤ ids.length := by rw [hlen]; exact hk
  have h0 : ∀ i B, s0[i]? = some B → σ (f i) = .live (renB f B) := fun i B hi => by
    have := rdOf_mem (f := f) s0 0 i B hi
    rw [Nat.zero_add] at this
    exact hrd _ (List.mem_append_left _ this)
  have h1 : ∀ i, s0.length ≤ i → i < s1.length → σ (f i) = .fresh := fun i h2 h3 => by
    have := frOf_mem (f := f) (s1.length - s0.length) s0.length (i - s0.length) (by omega)
    rw [show s0.length + (i - s0.length) = i from by omega] at this
    exact hrd _ (List.mem_append_right _ this)
  let μc : Nat → Mu := fun i => if i < s0.length then μ (f i) else .no
  have hμc : ∀ t, t < s0.length → μc t = μ (f t) := fun t ht => by simp only [μc, ht, if_true]
  let Fc : Nat → Prop := fun b => F b ∨ (Own μ σ b ∧ ¬ ∃ i, i < s0.length ∧ μ (f i) = .at b)
  have hlive0 : ∀ i B, ofB s0 i = .live B → i < s0.length ∧ s0[i]? = some B := by
    intro i B hi
    unfold ofB at hi
    split at hi
    · rename_i B' hB; cases hi; exact ⟨(List.getElem?_eq_some_iff.1 hB).1, hB⟩
    · cases hi
  have hOc : ∀ b, OwnF Fc μc (ofB s0) b ↔ OwnF F μ σ b := by
    intro b
    constructor
    · rintro ((hF | hO) | ⟨i, B, hi, hm⟩)
      · exact .inl hF
      · exact .inr hO.1
      · obtain ⟨g1, g2⟩ := hlive0 i B hi
        exact .inr ⟨f i, _, h0 i B g2, by rw [← hμc i g1]; exact hm⟩
    · rintro (hF | hO)
      · exact .inl (.inl hF)
      · by_cases hx : ∃ i, i < s0.length ∧ μ (f i) = .at b
        · obtain ⟨i, g1, g2⟩ := hx
          exact .inr ⟨i, s0[i], by simp [ofB, g1], by rw [hμc i g1]; exact g2⟩
        · exact .inl (.inr ⟨hO, hx⟩)
  have hsc : SRel Γ Fc w μc (ofB s0) := by
    refine ⟨fun t ht => ?_, fun t B ht => ?_, ?_, ?_, ?_, fun b o hb => ⟨(hs.gam b o hb).1, fun h' => (hs.gam b o hb).2 ((hOc b).1 h')⟩⟩
    · have : ¬ t < s0.length := fun hlt => by simp [ofB, hlt] at ht
      simp only [μc, this, if_false]
    · obtain ⟨g1, g2⟩ := hlive0 t B ht
      have := hs.live _ _ (h0 t B g2)
      rw [hμc t g1]
      exact brep_in (fun b hb => (hOc b).1 hb) hμc this (by simp only [List.all_eq_true] at hokb; exact hokb B (List.mem_of_getElem? g2))
    · intro t u B B' b ht hu m1 m2
      obtain ⟨t1, t2⟩ := hlive0 t B ht
      obtain ⟨u1, u2⟩ := hlive0 u B' hu
      rw [hμc t t1] at m1
      rw [hμc u u1] at m2
      exact finj t u (by omega) (by omega) (hs.inj _ _ _ _ b (h0 t B t2) (h0 u B' u2) m1 m2)
    · intro t B b ht hm
      obtain ⟨t1, t2⟩ := hlive0 t B ht
      rw [hμc t t1] at hm
      rintro (hF | hO)
      · exact hs.notF _ _ b (h0 t B t2) hm hF
      · exact hO.2 ⟨t, t1, hm⟩
    · rintro b (hF | hO)
      · exact hs.ffin b hF
      · exact own_lt hs hO.1
  have hac : Reps w (OwnF Fc μc (ofB s0)) μc args0 cargs.toList := by
    rw [renL_eq] at ha
    refine ⟨by simpa using ha.1, fun i p y g1 g2 => ?_⟩
    refine ren_in (fun b hb => (hOc b).1 hb) hμc (ha.2 i (ren f p) y (by simp [g1]) g2) p rfl ?_
    rw [okL_eq, List.all_eq_true] at hoka
    exact hoka p (List.mem_of_getElem? g1)
  refine (h Fc μc w cargs hsc hac).mono ?_
  rintro e w' ⟨y, μ', rfl, hs', hy, hx, hpin⟩
  refine ⟨y, rfl, ?_⟩
  let μ2 : Nat → Mu := fun t => if t ∈ ids then μ' (ids.idxOf t) else μ t
  have hμ2 : ∀ i, i < ids.length → μ2 (f i) = μ' i := fun i hi => by
    obtain ⟨g1, g2⟩ := fmem i hi
    simp only [μ2, g1, if_true, g2]
  have hμ2o : ∀ t, t ∉ ids → μ2 t = μ t := fun t ht => by simp only [μ2, ht, if_false]
  let σ2 := wrAll σ (wrOf f 0 s1)
  have hσ2 : ∀ i, i < s1.length → σ2 (f i) = (match s1[i]? with | some (some B) => .live (renB f B) | _ => .dead) := fun i hi => by
    have := wrOf_get σ s1 0 i (fun a b _ q2 _ q4 => finj a b (by omega) (by omega)) hi
    rw [Nat.zero_add] at this
    exact this
  have hσ2o : ∀ t, t ∉ ids → σ2 t = σ t := fun t ht => wrAll_out _ _ _ fun p hp e => by
    obtain ⟨j, j1, j2⟩ := wrOf_ids s1 0 p hp
    rw [Nat.zero_add] at j2
    exact ht (by rw [← e, j2]; exact (fmem j (by omega)).1)
  have hlive1 : ∀ i B, ofO s1 i = .live B → i < s1.length ∧ s1[i]? = some (some B) := by
    intro i B hi
    unfold ofO at hi
    split at hi
    · rename_i B' hB; cases hi; exact ⟨(List.getElem?_eq_some_iff.1 hB).1, hB⟩
    · cases hi
    · cases hi
  -- what is live behind the call
  have hlive2 : ∀ t B, σ2 t = .live B → (∃ i B', i < s1.length ∧ f i = t ∧ ofO s1 i = .live B' ∧ B = renB f B') ∨ (t ∉ ids ∧ σ t = .live B) := by
    intro t B ht
    by_cases hm : t ∈ ids
    · obtain ⟨g1, g2⟩ := fidx t hm
      have g3 := hσ2 (ids.idxOf t) (by omega)
      rw [g2, ht] at g3
      split at g3
      · rename_i B' hB'
        cases g3
        exact .inl ⟨ids.idxOf t, B', by omega, g2, by simp [ofO, hB'], rfl⟩
      · cases g3
    · rw [hσ2o t hm] at ht
      exact .inr ⟨hm, ht⟩
  have hout : ∀ t B b, t ∉ ids → σ t = .live B → μ t = .at b → Fc b := fun t B b ht hl hm => .inr ⟨⟨t, B, hl, hm⟩, fun ⟨i, g1, g2⟩ => ht (by
    have := hs.inj t (f i) _ _ b hl (h0 i s0[i] (by simp [g1])) hm g2
    rw [this]; exact (fmem i (by omega)).1)⟩
  have hown2 : ∀ b, Own μ2 σ2 b → Own μ' (ofO s1) b ∨ (Fc b ∧ Own μ σ b) := by
    rintro b ⟨t, B, ht, hm⟩
    rcases hlive2 t B ht with ⟨i, B', g1, rfl, g3, rfl⟩ | ⟨g1, g2⟩
    · rw [hμ2 i (by omega)] at hm; exact .inl ⟨i, B', g3, hm⟩
    · rw [hμ2o t g1] at hm; exact .inr ⟨hout t B b g1 g2 hm, t, B, g2, hm⟩
  have hO2 : ∀ b, OwnF F μ2 σ2 b → OwnF Fc μ' (ofO s1) b := by
    rintro b (hF | hO)
    · exact .inl (.inl hF)
    · rcases hown2 b hO with h | h
      · exact .inr h
      · exact .inl h.1
  have hme : MuExt μ μ2 := by
    intro t ht
    by_cases hm : t ∈ ids
    · obtain ⟨g1, g2⟩ := fidx t hm
      have e1 : μ2 t = μ' (ids.idxOf t) := by simp only [μ2, hm, if_true]
      by_cases hk' : ids.idxOf t < s0.length
      · have := hpin _ hk' (by rw [hμc _ hk', g2]; exact ht)
        rw [e1, this, hμc _ hk', g2]
      · have := h1 (ids.idxOf t) (by omega) (by omega)
        rw [g2] at this
        exact absurd (hs.fresh t this) ht
    · exact hμ2o t hm
  have hme' : ∀ t, μ' t ≠ .no → μ2 (f t) = μ' t := by
    intro t ht
    by_cases hlt : t < ids.length
    · exact hμ2 t hlt
    · exact absurd (hs'.fresh t (by simp [ofO, List.getElem?_eq_none (show s1.length ≤ t from by omega)])) ht
  have hxo : ∀ b, b < w.heap.size → ¬ Own μc (ofB s0) b → w'.heap[b]? = w.heap[b]? ∧ ¬ Own μ' (ofO s1) b := hx.keep
  have hnc : ∀ b, Fc b → ¬ Own μc (ofB s0) b := by
    rintro b hF ⟨i, B, hi, hm⟩
    exact hsc.notF i B b hi hm hF
  have hsub : ∀ b, Own μc (ofB s0) b → Own μ σ b := by
    rintro b ⟨i, B, hi, hm⟩
    obtain ⟨g1, g2⟩ := hlive0 i B hi
    exact ⟨f i, _, h0 i B g2, by rw [← hμc i g1]; exact hm⟩
  have hext : Ext w (Own μ σ) w' (Own μ2 σ2) := by
    refine ⟨hx.size, fun b hb hO => ?_, hx.shape, hx.os, hx.out⟩
    obtain ⟨g1, g2⟩ := hxo b hb fun h => hO (hsub b h)
    exact ⟨g1, fun h => (hown2 b h).elim g2 fun h => hO h.2⟩
  refine ⟨μ2, ⟨fun t ht => ?_, fun t B ht => ?_, ?_, ?_, fun b hb => Nat.lt_of_lt_of_le (hs.ffin b hb) hx.size, fun b o hb => ⟨(hs'.gam b o hb).1, fun h => (hs'.gam b o hb).2 (hO2 b h)⟩⟩, ren_out hO2 hme' hy, hext, hme⟩
  · by_cases hm : t ∈ ids
    · obtain ⟨g1, g2⟩ := fidx t hm
      have g3 := hσ2 (ids.idxOf t) (by omega)
      rw [g2] at g3
      have ht' : σ2 t = .fresh := ht
      rw [ht'] at g3
      split at g3 <;> cases g3
    · have ht' : σ2 t = .fresh := ht
      rw [hσ2o t hm] at ht'
      rw [hμ2o t hm]
      exact hs.fresh t ht'
  · rcases hlive2 t B ht with ⟨i, B', g1, rfl, g3, rfl⟩ | ⟨g1, g2⟩
    · rw [hμ2 i (by omega)]
      exact brep_out hO2 hme' (hs'.live i B' g3)
    · rw [hμ2o t g1]
      refine brep_keep ⟨hx.size, fun b hb hO => ?_⟩ hx.shape hme (fun b hb => ?_) (hs.live t B g2)
      · obtain ⟨q1, q2⟩ := hext.keep b hb fun h => hO (.inr h)
        exact ⟨q1, fun h => h.elim (fun hF => hO (.inl hF)) q2⟩
      · exact (hxo b (own_lt hs ⟨t, B, g2, hb⟩) (hnc b (hout t B b g1 g2 hb))).1
  · intro t u B B' b ht hu m1 m2
    rcases hlive2 t B ht with ⟨i, C, g1, rfl, g3, rfl⟩ | ⟨g1, g2⟩ <;> rcases hlive2 u B' hu with ⟨j, D, k1, rfl, k3, rfl⟩ | ⟨k1, k2⟩
    · rw [hμ2 i (by omega)] at m1
      rw [hμ2 j (by omega)] at m2
      rw [hs'.inj i j _ _ b g3 k3 m1 m2]
    · rw [hμ2 i (by omega)] at m1
      rw [hμ2o u k1] at m2
      exact absurd (hout u _ b k1 k2 m2) (hs'.notF i _ b g3 m1)
    · rw [hμ2o t g1] at m1
      rw [hμ2 j (by omega)] at m2
      exact absurd (hout t _ b g1 g2 m1) (hs'.notF j _ b k3 m2)
    · rw [hμ2o t g1] at m1
      rw [hμ2o u k1] at m2
      exact hs.inj t u _ _ b g2 k2 m1 m2
  · intro t B b ht hm hF
    rcases hlive2 t B ht with ⟨i, C, g1, rfl, g3, rfl⟩ | ⟨g1, g2⟩
    · rw [hμ2 i (by omega)] at hm
      exact hs'.notF i _ b g3 hm (.inl hF)
    · rw [hμ2o t g1] at hm
      exact hs.notF t _ b g2 hm hF

end Go.Am
