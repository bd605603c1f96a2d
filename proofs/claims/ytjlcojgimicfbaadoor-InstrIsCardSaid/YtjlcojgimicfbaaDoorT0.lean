/- Proof text of this claim, part 0: The abstract machine's values, states, and what they stand for in a world of the model.. Its conditions are those of the statement: the laid tables as the row lists them. -/
import Derived.Orders
import Derived.Still
import Derived.Laws.Cells
import Derived.Laws.Entries
import Derived.Tactics
/- The abstract machine's values, states, and what they stand for in a world of the model. -/
namespace Go.Am

inductive PV where
  | v (x : Value)
  | agg (cs : List PV)
  | tup (cs : List PV)
  | sl (full : Bool) (rows : List (List PV))
  | ip (cs : List PV)
  | op (sz t i off : Nat)
  | os (sz t i n : Nat)
  | oa (sz t i off n : Nat)
  | fn (f : Fn) (first caps : List PV)
  | ifc (ty : TypeId) (x : PV)
  | om (t : Nat)
  | any
  deriving Inhabited

inductive Blk where
  | rows (sz : Nat) (rs : List (List PV))
  | mib (es : List (Int × Bool))

inductive Slot where
  | fresh
  | dead
  | live (b : Blk)

inductive Mu where
  | no
  | ph
  | at (b : Nat)

/-- Immutable data in a world, outside of the blocks of O. -/
inductive PRep (w : World) (O : Nat → Prop) : PV → Value → Prop where
  | v (x : Value) : PRep w O (.v x) x
  | agg (cs : List PV) (ys : Array Value) (hl : cs.length = ys.size)
      (h : ∀ (i : Nat) p y, cs[i]? = some p → ys[i]? = some y → PRep w O p y) : PRep w O (.agg cs) (.agg ys)
  | tup (cs : List PV) (ys : Array Value) (hl : cs.length = ys.size)
      (h : ∀ (i : Nat) p y, cs[i]? = some p → ys[i]? = some y → PRep w O p y) : PRep w O (.tup cs) (.tuple ys)
  | nil (full : Bool) (a : Option Addr) (cap : Nat) (hf : full = true → cap = 0) : PRep w O (.sl full []) (.slice a 0 cap)
  | sl (full : Bool) (rows : List (List PV)) (sz b off cap : Nat) (vs : Nat → Nat → Value)
      (hsz : ∀ r ∈ rows, r.length = sz) (hcap : rows.length ≤ cap) (hlen : rows.length ≤ 140737488355328) (hf : full = true → cap = rows.length) (hO : ¬ O b) (hb : b < w.heap.size)
      (hc : ∀ i r j p, rows[i]? = some r → r[j]? = some p → w.cell? ⟨b, off + (i * sz + j), none⟩ = some (vs i j))
      (hr : ∀ (i : Nat) (r : List PV) (j : Nat) p, rows[i]? = some r → r[j]? = some p → PRep w O p (vs i j)) :
      PRep w O (.sl full rows) (.slice (some ⟨b, off, none⟩) rows.length cap)
  | ip (cs : List PV) (b off : Nat) (vs : Nat → Value) (hO : ¬ O b) (hb : b < w.heap.size)
      (hc : ∀ j p, cs[j]? = some p → w.cell? ⟨b, off + j, none⟩ = some (vs j))
      (hr : ∀ (j : Nat) p, cs[j]? = some p → PRep w O p (vs j)) : PRep w O (.ip cs) (.pointer (some ⟨b, off, none⟩))
  | fn (f : Fn) (first caps : List PV) (xs ys : Array Value) (hl : first.length = xs.size) (hl' : caps.length = ys.size)
      (h : ∀ (i : Nat) p y, first[i]? = some p → xs[i]? = some y → PRep w O p y)
      (h' : ∀ (i : Nat) p y, caps[i]? = some p → ys[i]? = some y → PRep w O p y) : PRep w O (.fn f first caps) (.func f xs ys)
  | ifc (ty : TypeId) (p : PV) (y : Value) (h : PRep w O p y) : PRep w O (.ifc ty p) (.iface ty y)

/-- What stands for a value: immutable data, or what leads into the blocks of the call's own. -/
inductive Rep (w : World) (O : Nat → Prop) (μ : Nat → Mu) : PV → Value → Prop where
  | pure {p : PV} {y : Value} (h : PRep w O p y) : Rep w O μ p y
  | any (y : Value) : Rep w O μ .any y
  | agg (cs : List PV) (ys : Array Value) (hl : cs.length = ys.size)
      (h : ∀ (i : Nat) p y, cs[i]? = some p → ys[i]? = some y → Rep w O μ p y) : Rep w O μ (.agg cs) (.agg ys)
  | tup (cs : List PV) (ys : Array Value) (hl : cs.length = ys.size)
      (h : ∀ (i : Nat) p y, cs[i]? = some p → ys[i]? = some y → Rep w O μ p y) : Rep w O μ (.tup cs) (.tuple ys)
  | fn (f : Fn) (first caps : List PV) (xs ys : Array Value) (hl : first.length = xs.size) (hl' : caps.length = ys.size)
      (h : ∀ (i : Nat) p y, first[i]? = some p → xs[i]? = some y → Rep w O μ p y)
      (h' : ∀ (i : Nat) p y, caps[i]? = some p → ys[i]? = some y → Rep w O μ p y) : Rep w O μ (.fn f first caps) (.func f xs ys)
  | ifc (ty : TypeId) (p : PV) (y : Value) (h : Rep w O μ p y) : Rep w O μ (.ifc ty p) (.iface ty y)
  | op (sz t i off b : Nat) (h : μ t = .at b) : Rep w O μ (.op sz t i off) (.pointer (some ⟨b, i * sz + off, none⟩))
  | os (sz t i n b cap : Nat) (h : μ t = .at b) (hn : n ≤ cap) (hlen : n ≤ 140737488355328) (hs : ∃ ty m, w.shape? b = some (ty, m) ∧ (i + cap) * sz ≤ m) :
      Rep w O μ (.os sz t i n) (.slice (some ⟨b, i * sz, none⟩) n cap)
  | ph (sz t : Nat) (a : Option Addr) (h : μ t = .ph) : Rep w O μ (.os sz t 0 0) (.slice a 0 0)
  | oa (sz t i off n b cap : Nat) (h : μ t = .at b) (hn : n ≤ cap) (hlen : n ≤ 140737488355328) : Rep w O μ (.oa sz t i off n) (.slice (some ⟨b, i * sz + off, none⟩) n cap)
  | om (t b : Nat) (h : μ t = .at b) : Rep w O μ (.om t) (.map (some b))

/-- A block of the call's own. -/
def BRep (w : World) (O : Nat → Prop) (μ : Nat → Mu) : Blk → Mu → Prop
  | .rows sz rs, .at b => ∃ c ty lo hi, w.heap[b]? = some (.cells c ty (lo, hi)) ∧ hi ≤ lo ∧ rs.length * sz ≤ c.size ∧ (∀ r ∈ rs, r.length = sz) ∧
      ∀ (i : Nat) (r : List PV) (j : Nat) p, rs[i]? = some r → r[j]? = some p → ∃ y, c[i * sz + j]? = some y ∧ Rep w O μ p y
  | .rows _ rs, .ph => rs = []
  | .mib es, .at b => ∃ ents clock, w.heap[b]? = some (.map ents clock) ∧
      ents.toList.map (fun e => (e.key, e.val)) = es.map fun p => (Value.int .i64 p.1, Value.bool p.2)
  | _, _ => False

/-- The blocks of the call's own. -/
def Own (μ : Nat → Mu) (σ : Nat → Slot) (b : Nat) : Prop := ∃ t B, σ t = .live B ∧ μ t = .at b

/-- .. and those that others own. -/
def OwnF (F : Nat → Prop) (μ : Nat → Mu) (σ : Nat → Slot) (b : Nat) : Prop := F b ∨ Own μ σ b

structure SRel (Γ : Nat → Option Obj) (F : Nat → Prop) (w : World) (μ : Nat → Mu) (σ : Nat → Slot) : Prop where
  fresh : ∀ t, σ t = .fresh → μ t = .no
  live : ∀ t B, σ t = .live B → BRep w (OwnF F μ σ) μ B (μ t)
  inj : ∀ t u B B' b, σ t = .live B → σ u = .live B' → μ t = .at b → μ u = .at b → t = u
  notF : ∀ t B b, σ t = .live B → μ t = .at b → ¬ F b
  ffin : ∀ b, F b → b < w.heap.size
  gam : ∀ b o, Γ b = some o → w.heap[b]? = some o ∧ ¬ OwnF F μ σ b

structure St where
  a : Nat → PV
  σ : Nat → Slot

structure Rel (Γ : Nat → Option Obj) (F : Nat → Prop) (N : Nat) (μ : Nat → Mu) (st : St) (a : Act) (w : World) : Prop where
  tsz : a.tmps.size = N
  dfs : a.defers = []
  tmp : ∀ t, Rep w (OwnF F μ st.σ) μ (st.a t) (a.tmps.getD t undef)
  sto : SRel Γ F w μ st.σ

/-- What a function of data is told of the world. -/
structure Fr (Γ : Nat → Option Obj) (F : Nat → Prop) (w : World) : Prop where
  ffin : ∀ b, F b → b < w.heap.size
  gam : ∀ b o, Γ b = some o → w.heap[b]? = some o ∧ ¬ F b

/-- What a piece of the run leaves alone. -/
structure Ext (w : World) (O : Nat → Prop) (w' : World) (O' : Nat → Prop) : Prop where
  size : w.heap.size ≤ w'.heap.size
  keep : ∀ b, b < w.heap.size → ¬ O b → w'.heap[b]? = w.heap[b]? ∧ ¬ O' b
  shape : ∀ b, b < w.heap.size → w'.shape? b = w.shape? b
  os : w'.os = w.os
  out : w'.output = w.output

theorem Ext.refl (w : World) (O : Nat → Prop) : Ext w O w O := ⟨Nat.le_refl _, fun _ _ h => ⟨rfl, h⟩, fun _ _ => rfl, rfl, rfl⟩

theorem Ext.trans {w w' w'' : World} {O O' O'' : Nat → Prop} (h : Ext w O w' O') (h' : Ext w' O' w'' O'') : Ext w O w'' O'' :=
  ⟨Nat.le_trans h.size h'.size, fun b hb hO => by
    have h1 := h.keep b hb hO
    have h2 := h'.keep b (Nat.lt_of_lt_of_le hb h.size) h1.2
    exact ⟨h2.1.trans h1.1, h2.2⟩, fun b hb => (h'.shape b (Nat.lt_of_lt_of_le hb h.size)).trans (h.shape b hb), h'.os.trans h.os, h'.out.trans h.out⟩

/-- What keeps immutable data. -/
def Keeps (w : World) (O : Nat → Prop) (w' : World) (O' : Nat → Prop) : Prop :=
  w.heap.size ≤ w'.heap.size ∧ ∀ b, b < w.heap.size → ¬ O b → w'.heap[b]? = w.heap[b]? ∧ ¬ O' b

theorem cell?_of_heap {w w' : World} {b : Nat} (h : w'.heap[b]? = w.heap[b]?) (off : Nat) : w'.cell? ⟨b, off, none⟩ = w.cell? ⟨b, off, none⟩ := by
  simp only [World.cell?, h]

theorem PRep.mono {w w' : World} {O O' : Nat → Prop} (hk : Keeps w O w' O') {p : PV} {y : Value} (h : PRep w O p y) : PRep w' O' p y := by
  induction h with
  | v x => exact .v x
  | agg cs ys hl _ ih => exact .agg cs ys hl ih
  | tup cs ys hl _ ih => exact .tup cs ys hl ih
  | nil full a cap hf => exact .nil full a cap hf
  | sl full rows sz b off cap vs hsz hcap hlen hf hO hb hc _ ih =>
    have hh := hk.2 b hb hO
    exact .sl full rows sz b off cap vs hsz hcap hlen hf hh.2 (Nat.lt_of_lt_of_le hb hk.1) (fun i r j p h1 h2 => (cell?_of_heap hh.1 _).trans (hc i r j p h1 h2)) ih
  | ip cs b off vs hO hb hc _ ih =>
    have hh := hk.2 b hb hO
    exact .ip cs b off vs hh.2 (Nat.lt_of_lt_of_le hb hk.1) (fun j p h1 => (cell?_of_heap hh.1 _).trans (hc j p h1)) ih
  | fn f first caps xs ys hl hl' _ _ ih ih' => exact .fn f first caps xs ys hl hl' ih ih'
  | ifc ty p y _ ih => exact .ifc ty p y ih

theorem Rep.mono {w w' : World} {O O' : Nat → Prop} {μ μ' : Nat → Mu} (hk : Keeps w O w' O') (hs : ∀ b, b < w.heap.size → w'.shape? b = w.shape? b)
    (hμ : ∀ t, μ t ≠ .no → μ' t = μ t) {p : PV} {y : Value} (h : Rep w O μ p y) : Rep w' O' μ' p y := by
  induction h with
  | pure h => exact .pure (h.mono hk)
  | any y => exact .any y
  | agg cs ys hl _ ih => exact .agg cs ys hl ih
  | tup cs ys hl _ ih => exact .tup cs ys hl ih
  | fn f first caps xs ys hl hl' _ _ ih ih' => exact .fn f first caps xs ys hl hl' ih ih'
  | ifc ty p y _ ih => exact .ifc ty p y ih
  | op sz t i off b h => exact .op sz t i off b ((hμ t (by rw [h]; simp)).trans h)
  | os sz t i n b cap h hn hlen hs' =>
    obtain ⟨ty, m, hsh, hle⟩ := hs'
    have hb : b < w.heap.size := by
      rcases Nat.lt_or_ge b w.heap.size with h' | h'
      · exact h'
      · simp [World.shape?, Array.getElem?_eq_none h'] at hsh
    exact .os sz t i n b cap ((hμ t (by rw [h]; simp)).trans h) hn hlen ⟨ty, m, (hs b hb).trans hsh, hle⟩
  | ph sz t a h => exact .ph sz t a ((hμ t (by rw [h]; simp)).trans h)
  | oa sz t i off n b cap h hn hlen => exact .oa sz t i off n b cap ((hμ t (by rw [h]; simp)).trans h) hn hlen
  | om t b h => exact .om t b ((hμ t (by rw [h]; simp)).trans h)

theorem Ext.keeps {F : Nat → Prop} {w w' : World} {O O' : Nat → Prop} (h : Ext w O w' O') : Keeps w (fun b => F b ∨ O b) w' (fun b => F b ∨ O' b) :=
  ⟨h.size, fun b hb hO => ⟨(h.keep b hb fun h' => hO (.inr h')).1, fun h' => h'.elim (fun hf => hO (.inl hf)) (h.keep b hb fun h' => hO (.inr h')).2⟩⟩

/-- Pointwise. -/
def Reps (w : World) (O : Nat → Prop) (μ : Nat → Mu) (ps : List PV) (ys : List Value) : Prop :=
  ps.length = ys.length ∧ ∀ (i : Nat) p y, ps[i]? = some p → ys[i]? = some y → Rep w O μ p y

def PReps (w : World) (O : Nat → Prop) (ps : List PV) (ys : List Value) : Prop :=
  ps.length = ys.length ∧ ∀ (i : Nat) p y, ps[i]? = some p → ys[i]? = some y → PRep w O p y

theorem Reps.nil {w : World} {O : Nat → Prop} {μ : Nat → Mu} : Reps w O μ [] [] := ⟨rfl, fun i p y h => by simp at h⟩
theorem Reps.cons {w : World} {O : Nat → Prop} {μ : Nat → Mu} {p : PV} {y : Value} {ps : List PV} {ys : List Value} (h : Rep w O μ p y) (hs : Reps w O μ ps ys) :
    Reps w O μ (p :: ps) (y :: ys) := ⟨by simp [hs.1], fun i q z h1 h2 => by
  cases i with
  | zero => simp at h1 h2; subst h1 h2; exact h
  | succ i => exact hs.2 i q z (by simpa using h1) (by simpa using h2)⟩
theorem Reps.of_cons {w : World} {O : Nat → Prop} {μ : Nat → Mu} {p : PV} {y : Value} {ps : List PV} {ys : List Value} (h : Reps w O μ (p :: ps) (y :: ys)) :
    Rep w O μ p y ∧ Reps w O μ ps ys :=
  ⟨h.2 0 p y rfl rfl, by have := h.1; simpa using this, fun i q z h1 h2 => h.2 (i + 1) q z (by simpa using h1) (by simpa using h2)⟩
theorem Reps.append {w : World} {O : Nat → Prop} {μ : Nat → Mu} {ps qs : List PV} {ys zs : List Value} (h : Reps w O μ ps ys) (h' : Reps w O μ qs zs) : Reps w O μ (ps ++ qs) (ys ++ zs) := by
  induction ps generalizing ys with
  | nil => cases ys with
    | nil => exact h'
    | cons y ys => exact absurd h.1 (by simp)
  | cons p ps ih => cases ys with
    | nil => exact absurd h.1 (by simp)
    | cons y ys => exact .cons h.of_cons.1 (ih h.of_cons.2)
theorem Reps.mono {w w' : World} {O O' : Nat → Prop} {μ μ' : Nat → Mu} (hk : Keeps w O w' O') (hs : ∀ b, b < w.heap.size → w'.shape? b = w.shape? b)
    (hμ : ∀ t, μ t ≠ .no → μ' t = μ t) {p : List PV} {y : List Value} (h : Reps w O μ p y) : Reps w' O' μ' p y :=
  ⟨h.1, fun i p y h1 h2 => (h.2 i p y h1 h2).mono hk hs hμ⟩
theorem PReps.reps {w : World} {O : Nat → Prop} {μ : Nat → Mu} {p : List PV} {y : List Value} (h : PReps w O p y) : Reps w O μ p y :=
  ⟨h.1, fun i p y h1 h2 => .pure (h.2 i p y h1 h2)⟩

end Go.Am
/- Steps of the abstract machine, and regions: one run in the text's order serves every order that the region's edges allow, where no two unordered steps touch one block. -/
namespace Go.Am
variable {Γ : Nat → Option Obj}

def upd {α : Type} (f : Nat → α) (k : Nat) (x : α) : Nat → α := fun n => if n = k then x else f n

theorem upd_same {α : Type} (f : Nat → α) (k : Nat) (x : α) : upd f k x k = x := by simp [upd]
theorem upd_ne {α : Type} (f : Nat → α) {k n : Nat} (x : α) (h : n ≠ k) : upd f k x n = f n := by simp [upd, h]
theorem upd_comm {α : Type} (f : Nat → α) {k l : Nat} (x y : α) (h : k ≠ l) : upd (upd f k x) l y = upd (upd f l y) k x := by
  funext n
  simp only [upd]
  by_cases h1 : n = k
  · subst h1; simp [h]
  · simp [h1]

structure Rec where
  val : PV
  rd : List (Nat × Slot)
  wr : List (Nat × Slot)

def wrAll (σ : Nat → Slot) : List (Nat × Slot) → Nat → Slot
  | [] => σ
  | p :: r => upd (wrAll σ r) p.1 p.2

theorem wrAll_out (σ : Nat → Slot) (wr : List (Nat × Slot)) (t : Nat) (h : ∀ p ∈ wr, p.1 ≠ t) : wrAll σ wr t = σ t := by
  induction wr with
  | nil => rfl
  | cons p r ih => simp only [wrAll]; rw [upd_ne _ _ (fun e => h p (List.mem_cons_self ..) e.symm)]; exact ih fun q hq => h q (List.mem_cons_of_mem _ hq)
theorem wrAll_in (σ σ' : Nat → Slot) (wr : List (Nat × Slot)) (t : Nat) (h : ∃ p ∈ wr, p.1 = t) : wrAll σ wr t = wrAll σ' wr t := by
  induction wr with
  | nil => obtain ⟨p, hp, _⟩ := h; cases hp
  | cons p r ih =>
    simp only [wrAll, upd]
    by_cases hp : t = p.1
    · simp [hp]
    · simp only [hp, if_false]
      obtain ⟨q, hq, he⟩ := h
      rcases List.mem_cons.1 hq with rfl | hq
      · exact absurd he.symm hp
      · exact ih ⟨q, hq, he⟩
theorem wrAll_comm (σ : Nat → Slot) (x y : List (Nat × Slot)) (h : ∀ p ∈ x, ∀ q ∈ y, p.1 ≠ q.1) : wrAll (wrAll σ x) y = wrAll (wrAll σ y) x := by
  funext t
  by_cases hx : ∃ p ∈ x, p.1 = t
  · have hy : ∀ q ∈ y, q.1 ≠ t := fun q hq e => by obtain ⟨p, hp, e'⟩ := hx; exact h p hp q hq (e'.trans e.symm)
    rw [wrAll_out _ y t hy]; exact wrAll_in _ _ x t hx
  · have hx' : ∀ p ∈ x, p.1 ≠ t := fun p hp e => hx ⟨p, hp, e⟩
    rw [wrAll_out _ x t hx']
    by_cases hy : ∃ q ∈ y, q.1 = t
    · exact wrAll_in _ _ y t hy
    · have hy' : ∀ q ∈ y, q.1 ≠ t := fun q hq e => hy ⟨q, hq, e⟩
      rw [wrAll_out _ y t hy', wrAll_out _ y t hy', wrAll_out _ x t hx']

def MuExt (μ μ' : Nat → Mu) : Prop := ∀ t, μ t ≠ .no → μ' t = μ t
theorem MuExt.refl (μ : Nat → Mu) : MuExt μ μ := fun _ _ => rfl
theorem MuExt.trans {μ μ' μ'' : Nat → Mu} (h : MuExt μ μ') (h' : MuExt μ' μ'') : MuExt μ μ'' := fun t ht => by
  have h1 := h t ht
  exact (h' t (by rw [h1]; exact ht)).trans h1

def Good (Γ : Nat → Option Obj) (F : Nat → Prop) (μ : Nat → Mu) (σ : Nat → Slot) (w : World) (r : Rec) (y : Value) (w' : World) : Prop :=
  ∃ μ', SRel Γ F w' μ' (wrAll σ r.wr) ∧ Rep w' (OwnF F μ' (wrAll σ r.wr)) μ' r.val y ∧ Ext w (Own μ σ) w' (Own μ' (wrAll σ r.wr)) ∧ MuExt μ μ'

def OpOK (Γ : Nat → Option Obj) (P : Program) (o : Oper) (A : Nat → PV) (r : Rec) : Prop :=
  ∀ (F : Nat → Prop) (μ : Nat → Mu) (σ : Nat → Slot) (a : Act) (w : World), SRel Γ F w μ σ →
    (∀ t, Operand.tmp t ∈ o.op.operands.toList → Rep w (OwnF F μ σ) μ (A t) (a.tmps.getD t undef)) → (∀ p ∈ r.rd, σ p.1 = p.2) →
    match (execOp a.eval o).run P w with
    | .ok (.value y) w' => Good Γ F μ σ w r y w'
    | .ok .skip w' => Good Γ F μ σ w r undef w'
    | .ok (.enter f args) w' => Calls P f args w' fun e w'' => ∃ y, e = .returned y ∧ Good Γ F μ σ w r y w''
    | _ => False

theorem OpOK.congr {P : Program} {o : Oper} {A A' : Nat → PV} {r : Rec} (h : OpOK Γ P o A r) (hA : ∀ t, Operand.tmp t ∈ o.op.operands.toList → A t = A' t) : OpOK Γ P o A' r :=
  fun F μ σ a w hs ht hr => h F μ σ a w hs (fun t hm => by rw [hA t hm]; exact ht t hm) hr

def put (A : Nat → PV) (dst : Option Tmp) (p : PV) : Nat → PV :=
  match dst with
  | some d => upd A d p
  | none => A

theorem put_comm (A : Nat → PV) {x y : Option Tmp} (v u : PV) (h : ∀ d, x = some d → y ≠ some d) : put (put A x v) y u = put (put A y u) x v := by
  cases x with
  | none => rfl
  | some d => cases y with
    | none => rfl
    | some e => exact upd_comm A v u (fun he => h d rfl (by rw [he]))

/-- One step: an operation that is carried out, or one whose guard says no. -/
inductive Ev where
  | skip
  | did (r : Rec)

/-- What a step that is not carried out leaves. -/
abbrev pU : PV := .v (.tuple #[])

def stepE (st : St) (o : Oper) : Ev → St
  | .skip => { st with a := put st.a o.dst pU }
  | .did r => { a := put st.a o.dst r.val, σ := wrAll st.σ r.wr }

def wantedA (ops : Array Oper) (o : Oper) (A : Nat → PV) : Option Bool :=
  match o.guard with
  | none => some true
  | some (j, want) =>
    match (ops[j]?).bind (·.dst) with
    | some d => match A d with
      | .v (.bool b) => some (b == want)
      | .v (.tuple _) => some false
      | _ => none
    | none => none

def Valid (Γ : Nat → Option Obj) (P : Program) (N : Nat) (ops : Array Oper) (fp : List Nat × List Nat) (o : Oper) (e : Ev) (st : St) : Prop :=
  (∀ d, o.dst = some d → d < N) ∧
  match e with
  | .skip => wantedA ops o st.a = some false
  | .did r => wantedA ops o st.a = some true ∧ OpOK Γ P o st.a r ∧ (∀ p ∈ r.rd, st.σ p.1 = p.2) ∧ (∀ p ∈ r.rd, p.1 ∈ fp.1) ∧ ∀ p ∈ r.wr, p.1 ∈ fp.2

def disj (x y : List Nat) : Bool := x.all fun t => !y.contains t
theorem disj_spec {x y : List Nat} (h : disj x y = true) {t : Nat} (hx : t ∈ x) : t ∉ y := by
  simp only [disj, List.all_eq_true, Bool.not_eq_true', List.contains_eq_mem, decide_eq_false_iff_not] at h
  exact h t hx

/-- Two steps that touch no block of each other's writes. -/
def FpOK (x y : List Nat × List Nat) : Prop := disj x.2 y.1 = true ∧ disj y.2 x.1 = true ∧ disj x.2 y.2 = true

theorem wantedA_put {ops : Array Oper} (o : Oper) (A : Nat → PV) (dst : Option Tmp) (v : PV) (h : ∀ d, dst = some d → d ∉ o.looksAt ops) :
    wantedA ops o (put A dst v) = wantedA ops o A := by
  cases dst with
  | none => rfl
  | some d =>
    unfold wantedA
    cases hg : o.guard with
    | none => rfl
    | some gw =>
      obtain ⟨g, want⟩ := gw
      simp only
      cases ht : (ops[g]?).bind (·.dst) with
      | none => rfl
      | some t =>
        have hne : t ≠ d := fun e => h d rfl (by subst e; simp [Oper.looksAt, hg, ht])
        simp only [put, upd_ne _ _ hne]

theorem put_out (A : Nat → PV) (dst : Option Tmp) (v : PV) (t : Nat) (h : ∀ d, dst = some d → d ≠ t) : put A dst v t = A t := by
  cases dst with
  | none => rfl
  | some d => exact upd_ne _ _ (fun e => h d rfl e.symm)

theorem looksAt_operand {ops : Array Oper} {o : Oper} {t : Nat} (h : Operand.tmp t ∈ o.op.operands.toList) : t ∈ o.looksAt ops :=
  List.mem_append_left _ (List.mem_filterMap.2 ⟨.tmp t, h, rfl⟩)

/-- A step of another operation, apart in temporaries and in blocks, makes no difference. -/
theorem valid_step {P : Program} {N : Nat} {ops : Array Oper} {x y : List Nat × List Nat} {oi oj : Oper} {ei ej : Ev} {st : St}
    (hap : ∀ d, oi.dst = some d → d ∉ oj.looksAt ops) (hfp : FpOK x y) (hvi : ∀ r, ei = .did r → ∀ p ∈ r.wr, p.1 ∈ x.2) :
    Valid Γ P N ops y oj ej (stepE st oi ei) ↔ Valid Γ P N ops y oj ej st := by
  have key : ∀ (A : Nat → PV) (v : PV), wantedA ops oj (put A oi.dst v) = wantedA ops oj A := fun A v => wantedA_put oj A oi.dst v hap
  have keyA : ∀ (A : Nat → PV) (v : PV) (r : Rec), OpOK Γ P oj (put A oi.dst v) r ↔ OpOK Γ P oj A r := fun A v r => by
    have e : ∀ t, Operand.tmp t ∈ oj.op.operands.toList → put A oi.dst v t = A t := fun t ht =>
      put_out A oi.dst v t fun d hd e => hap d hd (by subst e; exact looksAt_operand ht)
    exact ⟨fun h => h.congr e, fun h => h.congr fun t ht => (e t ht).symm⟩
  unfold Valid
  refine and_congr_right fun _ => ?_
  cases ei with
  | skip =>
    cases ej with
    | skip => simp only [stepE, key]
    | did r => simp only [stepE, key, keyA]
  | did ri =>
    cases ej with
    | skip => simp only [stepE, key]
    | did r =>
      simp only [stepE, key, keyA]
      refine and_congr_right fun _ => and_congr_right fun _ => ?_
      constructor
      · rintro ⟨h1, h2, h3⟩
        refine ⟨fun p hp => ?_, h2, h3⟩
        rw [← h1 p hp]
        exact (wrAll_out _ _ _ fun q hq e => disj_spec hfp.1 (hvi ri rfl q hq) (by rw [e]; exact h2 p hp)).symm
      · rintro ⟨h1, h2, h3⟩
        refine ⟨fun p hp => ?_, h2, h3⟩
        rw [← h1 p hp]
        exact wrAll_out _ _ _ fun q hq e => disj_spec hfp.1 (hvi ri rfl q hq) (by rw [e]; exact h2 p hp)

theorem stepE_comm {x y : List Nat × List Nat} {oi oj : Oper} {ei ej : Ev} {st : St} (h2 : ∀ d, oi.dst = some d → oj.dst ≠ some d) (hfp : FpOK x y)
    (hvi : ∀ r, ei = .did r → ∀ p ∈ r.wr, p.1 ∈ x.2) (hvj : ∀ r, ej = .did r → ∀ p ∈ r.wr, p.1 ∈ y.2) :
    stepE (stepE st oi ei) oj ej = stepE (stepE st oj ej) oi ei := by
  have hw : ∀ ri rj, ei = .did ri → ej = .did rj → wrAll (wrAll st.σ ri.wr) rj.wr = wrAll (wrAll st.σ rj.wr) ri.wr := fun ri rj hi hj =>
    wrAll_comm _ _ _ fun p hp q hq e => disj_spec hfp.2.2 (hvi ri hi p hp) (by rw [e]; exact hvj rj hj q hq)
  cases ei with
  | skip => cases ej with
    | skip => simp only [stepE, put_comm _ _ _ h2]
    | did rj => simp only [stepE, put_comm _ _ _ h2]
  | did ri => cases ej with
    | skip => simp only [stepE, put_comm _ _ _ h2]
    | did rj => simp only [stepE, put_comm _ _ _ h2, hw ri rj rfl rfl]

/-! ### From the abstract step to the model's -/

theorem Rep.of_v {w : World} {O : Nat → Prop} {μ : Nat → Mu} {x y : Value} (h : Rep w O μ (.v x) y) : y = x := by
  cases h with
  | pure h => cases h; rfl

theorem Rel.getD_put {N : Nat} {a : Act} (hsz : a.tmps.size = N) {dst : Option Tmp} (hd : ∀ d, dst = some d → d < N) (y : Value) (A : Nat → PV) (p : PV) {R : PV → Value → Prop}
    (h : ∀ t, R (A t) (a.tmps.getD t undef)) (hp : R p y) (t : Nat) : R (put A dst p t) ((a.put dst y).tmps.getD t undef) := by
  cases dst with
  | none => exact h t
  | some d =>
    have hd' := hd d rfl
    by_cases e : t = d
    · subst e
      have : (a.put (some t) y).tmps.getD t undef = y := by simp [Act.put, Array.getD, hsz, hd']
      rw [this]; simp only [put, upd_same]; exact hp
    · have h1 : (a.put (some d) y).tmps.getD t undef = a.tmps.getD t undef := by
        simp only [Act.put, Array.getD_eq_getD_getElem?]
        rw [Array.getElem?_setIfInBounds_ne (Ne.symm e)]
      rw [h1]; simp only [put, upd_ne _ _ e]; exact h t

theorem wanted_of {F : Nat → Prop} {N : Nat} {μ : Nat → Mu} {st : St} {a : Act} {w : World} (h : Rel Γ F N μ st a w) {ops : Array Oper} {o : Oper} {b : Bool}
    (hw : wantedA ops o st.a = some b) : Region.wanted o (yielded ops a.tmps) = b := by
  unfold wantedA at hw
  unfold Region.wanted
  cases hg : o.guard with
  | none => simp only [hg] at hw ⊢; exact Option.some.inj hw
  | some gw =>
    obtain ⟨j, want⟩ := gw
    simp only [hg] at hw ⊢
    unfold yielded
    cases ht : (ops[j]?).bind (·.dst) with
    | none => simp [ht] at hw
    | some d =>
      simp only [ht] at hw
      have h1 := h.tmp d
      cases hA : st.a d with
      | v x =>
        rw [hA] at h1 hw
        cases x with
        | bool b' =>
          simp only at hw
          have h2 := h1.of_v
          have h3 : a.tmps[d]? = some (.bool b') := by
            rw [Array.getD_eq_getD_getElem?] at h2
            cases hq : a.tmps[d]? with
            | none => rw [hq] at h2; simp [undef] at h2
            | some z => rw [hq] at h2; simpa using h2
          simp only [Option.bind_some, h3]
          simpa using hw
        | tuple ys =>
          simp only [Option.some.injEq] at hw
          subst hw
          have h2 := h1.of_v
          rw [Array.getD_eq_getD_getElem?] at h2
          cases hq : a.tmps[d]? with
          | none => simp [hq]
          | some z =>
            rw [hq] at h2
            simp only [Option.getD_some] at h2
            subst h2
            simp [hq]
        | _ => simp at hw
      | _ => rw [hA] at hw; simp at hw

theorem Own.sub {F : Nat → Prop} {μ : Nat → Mu} {σ : Nat → Slot} {b : Nat} (h : Own μ σ b) : OwnF F μ σ b := .inr h

theorem step_wp {P : Program} {F : Nat → Prop} {N : Nat} {μ : Nat → Mu} {st : St} {a : Act} {w : World} {ops : Array Oper} {fp : List Nat × List Nat} {o : Oper} {e : Ev}
    (h : Rel Γ F N μ st a w) (hv : Valid Γ P N ops fp o e st) {K : Act → World → Prop} {Q : Exit → Act → World → Prop}
    (hK : ∀ a' w' μ', Rel Γ F N μ' (stepE st o e) a' w' → Ext w (Own μ st.σ) w' (Own μ' (stepE st o e).σ) → MuExt μ μ' → K a' w') :
    if Region.wanted o (yielded ops a.tmps) then o.wp P a w K Q ∨ (o.asks P a w ∧ LetsOut Q) else K (a.put o.dst undef) w := by
  obtain ⟨hd, hv⟩ := hv
  have size_put : ∀ y, (a.put o.dst y).tmps.size = N := fun y => by cases hq : o.dst <;> simp [Act.put, h.tsz]
  have dfs_put : ∀ y, (a.put o.dst y).defers = [] := fun y => by cases hq : o.dst <;> simp [Act.put, h.dfs]
  cases e with
  | skip =>
    simp only at hv
    rw [if_neg (by rw [wanted_of h hv]; simp)]
    refine hK _ _ μ ⟨size_put _, dfs_put _, fun t => ?_, h.sto⟩ (Ext.refl _ _) (MuExt.refl _)
    exact Rel.getD_put h.tsz hd undef st.a pU (R := Rep w (OwnF F μ st.σ) μ) h.tmp (.pure (.v _)) t
  | did r =>
    obtain ⟨hw, hok, hrd, _, _⟩ := hv
    rw [if_pos (wanted_of h hw)]
    refine .inl ?_
    have h1 := hok F μ st.σ a w h.sto (fun t _ => h.tmp t) hrd
    have fin : ∀ y w', Good Γ F μ st.σ w r y w' → K (a.put o.dst y) w' := by
      rintro y w' ⟨μ', hs, hr, hx, hm⟩
      refine hK _ _ μ' ⟨size_put _, dfs_put _, fun t => ?_, hs⟩ hx hm
      exact Rel.getD_put h.tsz hd y st.a r.val (R := Rep w' (OwnF F μ' (wrAll st.σ r.wr)) μ') (fun t => (h.tmp t).mono (Ext.keeps hx) hx.shape hm) hr t
    unfold Oper.wp
    generalize (execOp a.eval o).run P w = res at h1
    cases res with
    | ok n w' =>
      cases n <;> simp only at h1 <;> simp only [Oper.upon]
      case value y => exact fin _ _ h1
      case skip => exact fin _ _ h1
      case enter f args =>
        refine h1.mono ?_
        rintro e w'' ⟨y, rfl, hg⟩
        exact fin _ _ hg
    | halt x w' => simp only at h1

end Go.Am
/- A region of the abstract machine: in the text's order, or in any order. -/
namespace Go.Am
variable {Γ : Nat → Option Obj}

section
variable {P : Program} {N : Nat} {ops : Array Oper} {fp : Nat → List Nat × List Nat} {md : Region.Mode}

def RunA (Γ : Nat → Option Obj) (P : Program) (N : Nat) (ops : Array Oper) (fp : Nat → List Nat × List Nat) (K : St → Prop) : List Oper → Nat → St → Prop
  | [], _, st => K st
  | o :: rest, i, st => ∃ e, Valid Γ P N ops (fp i) o e st ∧ RunA Γ P N ops fp K rest (i + 1) (stepE st o e)

theorem wpList_of_run {K : St → Prop} {Q : Exit → Act → World → Prop} {F : Nat → Prop} : ∀ (l : List Oper) (i : Nat) (st : St) (μ : Nat → Mu) (a : Act) (w : World),
    Rel Γ F N μ st a w → RunA Γ P N ops fp K l i st →
    (∀ st' a' w' μ', K st' → Rel Γ F N μ' st' a' w' → Ext w (Own μ st.σ) w' (Own μ' st'.σ) → MuExt μ μ' → Q .normal a' w') → wpList P ops Q l a w
  | [], _, st, μ, a, w, hr, h, hQ => hQ st a w μ h hr (Ext.refl _ _) (MuExt.refl _)
  | o :: rest, i, st, μ, a, w, hr, h, hQ => by
    obtain ⟨e, hv, hrest⟩ := h
    unfold wpList
    exact step_wp hr hv fun a' w' μ' hr' hx hm => wpList_of_run rest (i + 1) _ μ' a' w' hr' hrest fun st'' a'' w'' μ'' hk hr'' hx' hm' =>
      hQ st'' a'' w'' μ'' hk hr'' (hx.trans hx') (hm.trans hm')

def WAny (Γ : Nat → Option Obj) (P : Program) (N : Nat) (md : Region.Mode) (ops : Array Oper) (fp : Nat → List Nat × List Nat) (K : St → Prop) : Nat → Array Bool → St → Prop
  | 0, listed, st => Region.ready md ops listed = [] ∧ K st
  | fuel + 1, listed, st => (Region.ready md ops listed = [] → K st) ∧
    ∀ i ∈ Region.ready md ops listed, ∀ o, ops[i]? = some o → ∃ e, Valid Γ P N ops (fp i) o e st ∧ WAny Γ P N md ops fp K fuel (listed.setIfInBounds i true) (stepE st o e)

theorem wpAny_of_WAny {K : St → Prop} {Q : Exit → Act → World → Prop} {F : Nat → Prop} : ∀ (fuel : Nat) (listed : Array Bool) (st : St) (μ : Nat → Mu) (a : Act) (w : World),
    Rel Γ F N μ st a w → WAny Γ P N md ops fp K fuel listed st →
    (∀ st' a' w' μ', K st' → Rel Γ F N μ' st' a' w' → Ext w (Own μ st.σ) w' (Own μ' st'.σ) → MuExt μ μ' → Q .normal a' w') → wpAny P md ops Q fuel listed a w
  | 0, _, st, μ, a, w, hr, h, hQ => ⟨h.1, hQ st a w μ h.2 hr (Ext.refl _ _) (MuExt.refl _)⟩
  | fuel + 1, listed, st, μ, a, w, hr, h, hQ => ⟨fun h0 => hQ st a w μ (h.1 h0) hr (Ext.refl _ _) (MuExt.refl _), fun i hi => by
      obtain ⟨_, o, ho, _⟩ := mem_ready.1 hi
      obtain ⟨e, hv, hrest⟩ := h.2 i hi o ho
      unfold wpOp
      simp only [ho]
      exact step_wp hr hv fun a' w' μ' hr' hx hm => wpAny_of_WAny fuel _ _ μ' a' w' hr' hrest fun st'' a'' w'' μ'' hk hr'' hx' hm' =>
        hQ st'' a'' w'' μ'' hk hr'' (hx.trans hx') (hm.trans hm')⟩

theorem disj_symm {x y : List Nat} (h : disj x y = true) : disj y x = true := by
  simp only [disj, List.all_eq_true, Bool.not_eq_true', List.contains_eq_mem, decide_eq_false_iff_not] at *
  exact fun t ht hx => h t hx ht
theorem FpOK.symm {x y : List Nat × List Nat} (h : FpOK x y) : FpOK y x := ⟨h.2.1, h.1, disj_symm h.2.2⟩

theorem Valid.wr {o : Oper} {e : Ev} {st : St} {x : List Nat × List Nat} (h : Valid Γ P N ops x o e st) : ∀ r, e = .did r → ∀ p ∈ r.wr, p.1 ∈ x.2 := by
  rintro r rfl
  exact h.2.2.2.2.2

theorem WAny_first {K : St → Prop} {i : Nat} {oi : Oper} {ei : Ev} (hi : ops[i]? = some oi) :
    ∀ (fuel : Nat) (listed : Array Bool) (st : St),
      (∀ j oj, ops[j]? = some oj → j ≠ i → listed.getD j true = false → (∀ e ∈ oj.after, Region.binds md e = true → e.on ≠ i) → oi.apart ops oj = true ∧ FpOK (fp i) (fp j)) →
      i ∈ Region.ready md ops listed → Valid Γ P N ops (fp i) oi ei st →
      WAny Γ P N md ops fp K fuel (listed.setIfInBounds i true) (stepE st oi ei) → WAny Γ P N md ops fp K (fuel + 1) listed st := by
  intro fuel
  induction fuel with
  | zero =>
    intro listed st _ hr hv H
    refine ⟨fun h => (by rw [h] at hr; cases hr), fun j hj o ho => ?_⟩
    by_cases hji : j = i
    · subst hji
      obtain rfl : oi = o := Option.some.inj (hi.symm.trans ho)
      exact ⟨ei, hv, H⟩
    · have := ready_mono hj hji
      rw [H.1] at this
      cases this
  | succ fuel ih =>
    intro listed st hfree hr hv H
    refine ⟨fun h => (by rw [h] at hr; cases hr), fun j hj o ho => ?_⟩
    by_cases hji : j = i
    · subst hji
      obtain rfl : oi = o := Option.some.inj (hi.symm.trans ho)
      exact ⟨ei, hv, H⟩
    · obtain ⟨ej, hvj, H1⟩ := H.2 j (ready_mono hj hji) o ho
      obtain ⟨hjun, oj, hoj, hall⟩ := mem_ready.1 hj
      obtain rfl : oj = o := Option.some.inj (hoj.symm.trans ho)
      have hnot : ∀ e ∈ oj.after, Region.binds md e = true → e.on ≠ i := fun e he hb heq => by
        have h1 := hall e he hb
        have h0 := (mem_ready.1 hr).1
        rw [heq] at h1
        rcases Nat.lt_or_ge i listed.size with h' | h'
        · simp [h'] at h0 h1; rw [h0] at h1; cases h1
        · simp [Array.getElem?_eq_none h'] at h1
      obtain ⟨hap, hfp⟩ := hfree j oj hoj hji hjun hnot
      obtain ⟨a1, a2, a3⟩ := Oper.apart_spec hap
      have hvj' : Valid Γ P N ops (fp j) oj ej st := (valid_step a1 hfp hv.wr).1 hvj
      have hvi' : Valid Γ P N ops (fp i) oi ei (stepE st oj ej) := (valid_step a3 hfp.symm hvj'.wr).2 hv
      refine ⟨ej, hvj', ih (listed.setIfInBounds j true) (stepE st oj ej) ?_ (ready_mono hr (Ne.symm hji)) hvi' ?_⟩
      · intro k ok hk hki hun hno
        refine hfree k ok hk hki ?_ hno
        by_cases hjk : j = k
        · subst hjk; exact hjun
        · rw [getD_set_ne true hjk] at hun; exact hun
      · rw [Array.setIfInBounds_comm _ _ hji, ← stepE_comm a2 hfp hv.wr hvj'.wr]
        exact H1

/-- Of each two steps of which the later one does not wait for the other: they touch no block of each other's writes. -/
def fpB (ops : Array Oper) (fp : List (List Nat × List Nat)) : Bool :=
  (List.range ops.size).all fun i => (fp.getD i ([], [])).1.isEmpty && (fp.getD i ([], [])).2.isEmpty || (List.range ops.size).all fun j => decide (j ≤ i) ||
    (match ops[j]? with
    | some oj => oj.after.any fun e => Region.binds .any e && e.on == i
    | none => true) || (disj (fp.getD i ([], [])).2 (fp.getD j ([], [])).1 && disj (fp.getD j ([], [])).2 (fp.getD i ([], [])).1 && disj (fp.getD i ([], [])).2 (fp.getD j ([], [])).2)

theorem fpB_spec {fp : List (List Nat × List Nat)} (h : fpB ops fp = true) {i j : Nat} {oj : Oper} (hi : i < ops.size) (hj : ops[j]? = some oj) (hij : i < j)
    (hno : ∀ e ∈ oj.after, Region.binds .any e = true → e.on ≠ i) : FpOK (fp.getD i ([], [])) (fp.getD j ([], [])) := by
  simp only [fpB, List.all_eq_true, List.mem_range, Bool.or_eq_true, Bool.and_eq_true] at h
  rcases h i hi with h1 | h1
  · simp only [List.isEmpty_iff] at h1
    unfold FpOK
    rw [h1.1, h1.2]
    simp [disj]
  · have h2 := h1 j (Array.getElem?_eq_some_iff.1 hj).1
    simp only [hj, decide_eq_true_eq] at h2
    rcases h2 with (h2 | h2) | h2
    · omega
    · obtain ⟨e, he, hb⟩ := Array.any_eq_true'.1 h2
      simp only [Bool.and_eq_true, beq_iff_eq] at hb
      exact absurd hb.2 (hno e he hb.1)
    · exact ⟨h2.1.1, h2.1.2, h2.2⟩

theorem WAny_lex {K : St → Prop} {fpl : List (List Nat × List Nat)} (hfp : fpB ops fpl = true) : ∀ (l : List Oper) (k : Nat) (listed : Array Bool) (st : St), (∀ j, l[j]? = ops[k + j]?) →
    (∀ j, j < k → listed.getD j true = true) →
    Region.lexFrom .any ops l.length k listed = true → RunA Γ P N ops (fun i => fpl.getD i ([], [])) K l k st → WAny Γ P N .any ops (fun i => fpl.getD i ([], [])) K l.length listed st
  | [], _, _, _, _, _, hB, h => ⟨by simpa [Region.lexFrom] using hB, h⟩
  | o :: l, k, listed, st, hl, hlow, hB, h => by
    have h0 : ops[k]? = some o := by simpa using (hl 0).symm
    have hk : k < ops.size := (Array.getElem?_eq_some_iff.1 h0).1
    simp only [List.length_cons, Region.lexFrom, Bool.and_eq_true] at hB
    obtain ⟨⟨hr, hf⟩, hB'⟩ := hB
    obtain ⟨e, hv, hrest⟩ := h
    refine WAny_first h0 l.length listed st ?_ (by simpa using hr) hv
      (WAny_lex hfp l (k + 1) _ _ (fun j => by have := hl (j + 1); simpa [Nat.add_assoc, Nat.add_comm 1 j] using this) ?_ hB' hrest)
    · intro j oj hj hne hun hno
      refine ⟨Region.free_spec h0 hf j oj hj hne hun hno, fpB_spec hfp hk hj ?_ hno⟩
      rcases Nat.lt_or_ge k j with h' | h'
      · exact h'
      · have := hlow j (by omega)
        rw [this] at hun; cases hun
    · intro j hj
      by_cases hjk : k = j
      · subst hjk
        by_cases hs : k < listed.size
        · simp [hs]
        · rw [Array.getD_eq_getD_getElem?, Array.getElem?_eq_none (by simpa using hs)]; rfl
      · rw [getD_set_ne true hjk]; exact hlow j (by omega)

theorem Rel.drew {F : Nat → Prop} {μ : Nat → Mu} {st : St} {a : Act} {w : World} (h : Rel Γ F N μ st a w) : Rel Γ F N μ st a { w with drawn := w.drawn + 1 } := by
  have hk : ∀ O, Keeps w O { w with drawn := w.drawn + 1 } O := fun O => ⟨Nat.le_refl _, fun b hb hO => ⟨rfl, hO⟩⟩
  refine ⟨h.tsz, h.dfs, fun t => (h.tmp t).mono (hk _) (fun _ _ => rfl) (fun _ _ => rfl), ⟨h.sto.fresh, fun t B ht => ?_, h.sto.inj, h.sto.notF, h.sto.ffin, h.sto.gam⟩⟩
  have h1 := h.sto.live t B ht
  cases B with
  | rows sz rs =>
    cases hm : μ t with
    | no => rw [hm] at h1; exact h1
    | ph => rw [hm] at h1; exact h1
    | «at» b =>
      rw [hm] at h1
      obtain ⟨c, ty, lo, hi, e1, e2, e3, e4, e5⟩ := h1
      exact ⟨c, ty, lo, hi, e1, e2, e3, e4, fun i r j p h1 h2 => let ⟨y, e6, e7⟩ := e5 i r j p h1 h2; ⟨y, e6, e7.mono (hk _) (fun _ _ => rfl) (fun _ _ => rfl)⟩⟩
  | mib es => cases hm : μ t <;> rw [hm] at h1 <;> exact h1

end
end Go.Am
/- Code of the abstract machine: sequences, tests, blocks, loops, regions, calls. -/
namespace Go.Am
variable {Γ : Nat → Option Obj}

section
variable {P : Program} {N pin : Nat}

def AW (Γ : Nat → Option Obj) (P : Program) (N pin : Nat) (c : Code) (Q : Exit → St → Prop) (st : St) : Prop :=
  ∀ (F : Nat → Prop) (μ : Nat → Mu) (a : Act) (w : World), Rel Γ F N μ st a w →
    c.wp P (fun e a' w' => ∃ μ' st', Rel Γ F N μ' st' a' w' ∧ Ext w (Own μ st.σ) w' (Own μ' st'.σ) ∧ (∀ t, t < pin → μ t ≠ .no → μ' t = μ t) ∧ Q e st') a w

theorem AW.mono {c : Code} {Q Q' : Exit → St → Prop} {st : St} (h : AW Γ P N pin c Q st) (hq : ∀ e st, Q e st → Q' e st) : AW Γ P N pin c Q' st :=
  fun F μ a w hr => wp_mono (h F μ a w hr) fun e _ _ ⟨μ', st', h1, h2, h3, h4⟩ => ⟨μ', st', h1, h2, h3, hq e st' h4⟩

def SeqQ (K : St → Prop) (Q : Exit → St → Prop) : Exit → St → Prop
  | .normal, st => K st
  | e, st => Q e st

def BlockQ (id : Nat) (Q : Exit → St → Prop) : Exit → St → Prop
  | .exit i, st => if i = id then Q .normal st else Q (.exit i) st
  | e, st => Q e st

theorem AW_skip {Q : Exit → St → Prop} {st : St} (h : Q .normal st) : AW Γ P N pin .skip Q st :=
  fun _ μ _ _ hr => wp_skip ⟨μ, st, hr, Ext.refl _ _, fun _ _ _ => rfl, h⟩
theorem AW_exit {id : Nat} {Q : Exit → St → Prop} {st : St} (h : Q (.exit id) st) : AW Γ P N pin (.exit id) Q st :=
  fun _ μ _ _ hr => wp_exit ⟨μ, st, hr, Ext.refl _ _, fun _ _ _ => rfl, h⟩
theorem AW_ret {Q : Exit → St → Prop} {st : St} (h : Q .ret st) : AW Γ P N pin .ret Q st :=
  fun _ μ _ _ hr => wp_ret ⟨μ, st, hr, Ext.refl _ _, fun _ _ _ => rfl, h⟩

theorem pin_trans {μ μ' μ'' : Nat → Mu} (h : ∀ t, t < pin → μ t ≠ .no → μ' t = μ t) (h' : ∀ t, t < pin → μ' t ≠ .no → μ'' t = μ' t) : ∀ t, t < pin → μ t ≠ .no → μ'' t = μ t :=
  fun t ht hn => by
    have h1 := h t ht hn
    exact (h' t ht (by rw [h1]; exact hn)).trans h1

theorem AW_seq {x y : Code} {Q : Exit → St → Prop} {st : St} (h : AW Γ P N pin x (SeqQ (AW Γ P N pin y Q) Q) st) : AW Γ P N pin (.seq x y) Q st := by
  intro F μ a w hr
  refine wp_seq (wp_mono (h F μ a w hr) ?_)
  rintro e a' w' ⟨μ', st', h1, h2, h3, h4⟩
  cases e with
  | normal =>
    exact wp_mono (h4 F μ' a' w' h1) fun e a'' w'' ⟨μ'', st'', k1, k2, k3, k4⟩ => ⟨μ'', st'', k1, h2.trans k2, pin_trans h3 k3, k4⟩
  | _ => exact ⟨μ', st', h1, h2, h3, h4⟩

theorem AW_block {id : Nat} {c : Code} {Q : Exit → St → Prop} {st : St} (h : AW Γ P N pin c (BlockQ id Q) st) : AW Γ P N pin (.block id c) Q st := by
  intro F μ a w hr
  refine wp_block (wp_mono (h F μ a w hr) ?_)
  rintro e a' w' ⟨μ', st', h1, h2, h3, h4⟩
  cases e with
  | exit i =>
    simp only [Exit.inBlock]
    simp only [BlockQ] at h4
    by_cases hi : i = id
    · simp only [hi, if_true] at h4 ⊢; exact ⟨μ', st', h1, h2, h3, h4⟩
    · simp only [hi, if_false] at h4 ⊢; exact ⟨μ', st', h1, h2, h3, h4⟩
  | _ => exact ⟨μ', st', h1, h2, h3, h4⟩

def constCell : Value → PV
  | .slice none 0 0 => .sl true []
  | x => .v x

def constPV : Value → PV
  | .agg cs => .agg (cs.toList.map constCell)
  | x => constCell x

def ev (A : Nat → PV) : Operand → PV
  | .tmp t => A t
  | .const c => constPV c
  | .global g => .v (.pointer (some ⟨g, 0, none⟩))
  | .func f => .fn (.func f) [] []

theorem constCell_rep (w : World) (O : Nat → Prop) (x : Value) : PRep w O (constCell x) x := by
  unfold constCell
  split
  · exact .nil true none 0 (fun _ => rfl)
  · exact .v _
theorem constPV_rep (w : World) (O : Nat → Prop) (x : Value) : PRep w O (constPV x) x := by
  unfold constPV
  split
  · rename_i cs
    refine .agg _ _ (by simp) fun i p y h1 h2 => ?_
    have h3 : cs.toList[i]? = some y := by simpa using h2
    rw [List.getElem?_map, h3] at h1
    simp only [Option.map_some, Option.some.injEq] at h1
    subst h1
    exact constCell_rep w O y
  · exact constCell_rep w O x

theorem ev_rep {w : World} {O : Nat → Prop} {μ : Nat → Mu} {A : Nat → PV} {a : Act} {x : Operand} (h : ∀ t, x = .tmp t → Rep w O μ (A t) (a.tmps.getD t undef)) :
    Rep w O μ (ev A x) (a.eval x) := by
  cases x with
  | tmp t => exact h t rfl
  | const c => exact .pure (constPV_rep w O c)
  | global g => exact .pure (.v _)
  | func f => exact .pure (.fn _ _ _ _ _ rfl rfl (fun i p y h => by simp at h) (fun i p y h => by simp at h))

theorem AW_cond {c : Operand} {x y : Code} {Q : Exit → St → Prop} {st : St} {b : Bool} (hc : ev st.a c = .v (.bool b)) (ht : b = true → AW Γ P N pin x Q st) (hf : b = false → AW Γ P N pin y Q st) :
    AW Γ P N pin (.cond c x y) Q st := by
  intro F μ a w hr
  have h1 := ev_rep (a := a) (x := c) fun t _ => hr.tmp t
  rw [hc] at h1
  have h2 := h1.of_v
  exact wp_cond_split h2 (fun h => ht h F μ a w hr) (fun h => hf h F μ a w hr)

/-- A state that is told with less, or otherwise. -/
def Weak (Γ : Nat → Option Obj) (pin : Nat) (st st2 : St) : Prop :=
  ∀ (F : Nat → Prop) (N : Nat) (μ : Nat → Mu) (a : Act) (w : World), Rel Γ F N μ st a w →
    ∃ μ2, Rel Γ F N μ2 st2 a w ∧ (∀ b, Own μ2 st2.σ b → Own μ st.σ b) ∧ ∀ t, t < pin → μ t ≠ .no → μ2 t = μ t

theorem Weak.refl (pin : Nat) (st : St) : Weak Γ pin st st := fun _ _ μ _ _ h => ⟨μ, h, fun _ h => h, fun _ _ _ => rfl⟩
theorem Weak.trans {pin : Nat} {s1 s2 s3 : St} (h : Weak Γ pin s1 s2) (h' : Weak Γ pin s2 s3) : Weak Γ pin s1 s3 := fun F N μ a w hr => by
  obtain ⟨μ2, r2, o2, p2⟩ := h F N μ a w hr
  obtain ⟨μ3, r3, o3, p3⟩ := h' F N μ2 a w r2
  exact ⟨μ3, r3, fun b hb => o2 b (o3 b hb), pin_trans p2 p3⟩

theorem Ext.sub {w w' : World} {O O2 O' : Nat → Prop} (h : Ext w O2 w' O') (hs : ∀ b, O2 b → O b) : Ext w O w' O' :=
  ⟨h.size, fun b hb hO => h.keep b hb fun h' => hO (hs b h'), h.shape, h.os, h.out⟩

theorem AW_weak {c : Code} {Q : Exit → St → Prop} {st st2 : St} (hw : Weak Γ pin st st2) (h : AW Γ P N pin c Q st2) : AW Γ P N pin c Q st := by
  intro F μ a w hr
  obtain ⟨μ2, r2, o2, p2⟩ := hw F N μ a w hr
  exact wp_mono (h F μ2 a w r2) fun e a' w' ⟨μ', st', k1, k2, k3, k4⟩ => ⟨μ', st', k1, k2.sub o2, pin_trans p2 k3, k4⟩

theorem AW_loop {α : Type} {body : Code} {Q : Exit → St → Prop} {st : St} (S : α → St) (m : α → Nat) (x0 : α) (h0 : Weak Γ pin st (S x0))
    (round : ∀ x, AW Γ P N pin body (SeqQ (fun st' => ∃ y, Weak Γ pin st' (S y) ∧ m y < m x) Q) (S x)) : AW Γ P N pin (.loop body) Q st := by
  refine AW_weak h0 ?_
  clear h0
  intro F μ a w hr b k cs
  have key : ∀ n x μ a w, m x = n → Rel Γ F N μ (S x) a w → ∃ e a' w', (∃ μ' st', Rel Γ F N μ' st' a' w' ∧ Ext w (Own μ (S x).σ) w' (Own μ' st'.σ) ∧ (∀ t, t < pin → μ t ≠ .no → μ' t = μ t) ∧ Q e st') ∧
      Arrives P (lone (b.at a (.code body :: .inLoop body :: k)) cs w) b k cs e a' w' := by
    intro n
    induction n using Nat.strongRecOn with
    | _ n ih =>
      intro x μ a w hn hI
      obtain ⟨e, a₁, w₁, ⟨μ₁, st₁, h1, h2, h3, h4⟩, harr⟩ := round x F μ a w hI b (.inLoop body :: k) cs
      cases e with
      | normal =>
        obtain ⟨y, hwk, hlt⟩ := h4
        obtain ⟨μ2, r2, o2, p2⟩ := hwk F N μ₁ a₁ w₁ h1
        obtain ⟨e₂, a₂, w₂, ⟨μ₃, st₃, k1, k2, k3, k4⟩, harr₂⟩ := ih (m y) (hn ▸ hlt) y μ2 a₁ w₁ rfl r2
        exact ⟨e₂, a₂, w₂, ⟨μ₃, st₃, k1, h2.trans (k2.sub o2), pin_trans (pin_trans h3 p2) k3, k4⟩, .of_steps (Steps.trans harr (.one step_inLoop)) harr₂⟩
      | exit id => exact ⟨_, a₁, w₁, ⟨μ₁, st₁, h1, h2, h3, h4⟩, .pass (x := .inLoop body) rfl (fun _ _ => .inl (by simp)) harr⟩
      | goto l => exact ⟨_, a₁, w₁, ⟨μ₁, st₁, h1, h2, h3, h4⟩, .pass (x := .inLoop body) rfl (fun _ _ => .inl (by simp)) harr⟩
      | ret => exact ⟨_, a₁, w₁, ⟨μ₁, st₁, h1, h2, h3, h4⟩, .pass (x := .inLoop body) rfl (fun _ _ => .inl (by simp)) harr⟩
      | panic ch => exact ⟨_, a₁, w₁, ⟨μ₁, st₁, h1, h2, h3, h4⟩, .pass (x := .inLoop body) rfl (fun _ _ => .inl (by simp)) harr⟩
      | outgrown => exact ⟨_, a₁, w₁, ⟨μ₁, st₁, h1, h2, h3, h4⟩, .pass (x := .inLoop body) rfl (fun _ _ => .inl (by simp)) harr⟩
  obtain ⟨e, a', w', hq, harr⟩ := key _ x0 μ a w rfl hr
  exact ⟨e, a', w', hq, .of_steps (.one step_loop) harr⟩

/-- Which operations a region's order may be changed for, and what is known of the program. -/
structure Env (P : Program) : Prop where
  mixed : P.follows .mixedOrders = true

theorem AW_region_text {id : Nat} {l : List Oper} {fp : Nat → List Nat × List Nat} {Q : Exit → St → Prop} {st : St}
    (h : RunA Γ P N l.toArray fp (Q .normal) l 0 st) : AW Γ P N pin (.region id l.toArray false) Q st := by
  intro F μ a w hr
  refine wp_region_lit (wpList_of_run l 0 st μ a w hr h ?_)
  exact fun st' a' w' μ' hk hr' hx hm => ⟨μ', st', hr', hx, fun t _ hn => hm t hn, hk⟩

theorem AW_region_any (hm : P.follows .mixedOrders = true) {id : Nat} {l : List Oper} {fpl : List (List Nat × List Nat)} {Q : Exit → St → Prop} {st : St}
    (hB : Region.lexB .any l.toArray = true) (hfp : fpB l.toArray fpl = true)
    (h : RunA Γ P N l.toArray (fun i => fpl.getD i ([], [])) (Q .normal) l 0 st) : AW Γ P N pin (.region id l.toArray true) Q st := by
  intro F μ a w hr
  simp only [Region.lexB, Bool.and_eq_true] at hB
  refine wp_region_any hm ?_
  have h1 := WAny_lex (K := Q .normal) hfp l 0 (Array.replicate l.toArray.size false) st (by simp) (fun j hj => absurd hj (Nat.not_lt_zero _)) (by simpa using hB.2) h
  have h2 := wpAny_of_WAny (Q := fun e a' w' => ∃ μ' st', Rel Γ F N μ' st' a' w' ∧ Ext w (Own μ st.σ) w' (Own μ' st'.σ) ∧ (∀ t, t < pin → μ t ≠ .no → μ' t = μ t) ∧ Q e st') _ _ st μ a _ hr.drew h1
    (fun st' a' w' μ' hk hr' hx hm' => ⟨μ', st', hr', ⟨hx.size, hx.keep, hx.shape, hx.os, hx.out⟩, fun t _ hn => hm' t hn, hk⟩)
  simpa using h2

end
end Go.Am
/- Contracts of functions over the abstract machine's values; a call by a contract; a call that touches blocks of the caller's. -/
namespace Go.Am
variable {Γ : Nat → Option Obj}

section
variable {P : Program}

def Ent (P : Program) (f : FuncId) : Prop := ∀ (args : Array Value) (w : World), (callFunc f args).run P w = .ok (.enter f args) w

theorem ent_of {f : FuncId} {fn : Func} {c : Code} (hf : P.funcs[f]? = some fn) (hname : (fn.name == "runtime.NumGoroutine") = false) (hb : fn.body = some c) : Ent P f := by
  intro args w
  have h1 : fn.name ≠ "runtime.NumGoroutine" := by simpa using hname
  simp [callFunc, hf, h1, hb]

def noσ : Nat → Slot := fun _ => .fresh
def ofB (l : List Blk) : Nat → Slot := fun t => match l[t]? with
  | some B => .live B
  | none => .fresh
def ofO (l : List (Option Blk)) : Nat → Slot := fun t => match l[t]? with
  | some (some B) => .live B
  | some none => .dead
  | none => .fresh

/-- A function of data alone. -/
def Pure (Γ : Nat → Option Obj) (P : Program) (f : FuncId) (args : List PV) (r : PV) : Prop :=
  ∀ (F : Nat → Prop) (w : World) (cargs : Array Value), Fr Γ F w → PReps w F args cargs.toList →
    Calls P f cargs w fun e w' => ∃ y, e = .returned y ∧ PRep w' F r y ∧ Ext w (fun _ => False) w' (fun _ => False)

/-- A function that works on blocks that it is handed. -/
def EC (Γ : Nat → Option Obj) (P : Program) (f : FuncId) (args : List PV) (s0 : List Blk) (r : PV) (s1 : List (Option Blk)) : Prop :=
  ∀ (F : Nat → Prop) (μ : Nat → Mu) (w : World) (cargs : Array Value), SRel Γ F w μ (ofB s0) → Reps w (OwnF F μ (ofB s0)) μ args cargs.toList →
    Calls P f cargs w fun e w' => ∃ y μ', e = .returned y ∧ SRel Γ F w' μ' (ofO s1) ∧ Rep w' (OwnF F μ' (ofO s1)) μ' r y ∧
      Ext w (Own μ (ofB s0)) w' (Own μ' (ofO s1)) ∧ ∀ t, t < s0.length → μ t ≠ .no → μ' t = μ t

mutual
def ren (f : Nat → Nat) : PV → PV
  | .agg cs => .agg (renL f cs)
  | .tup cs => .tup (renL f cs)
  | .fn g first caps => .fn g (renL f first) (renL f caps)
  | .ifc ty x => .ifc ty (ren f x)
  | .op sz t i off => .op sz (f t) i off
  | .os sz t i n => .os sz (f t) i n
  | .oa sz t i off n => .oa sz (f t) i off n
  | .om t => .om (f t)
  | .v x => .v x
  | .sl full rows => .sl full rows
  | .ip cs => .ip cs
  | .any => .any
def renL (f : Nat → Nat) : List PV → List PV
  | [] => []
  | x :: xs => ren f x :: renL f xs
end

mutual
/-- All blocks that it leads to are below k. -/
def okI (k : Nat) : PV → Bool
  | .agg cs => okL k cs
  | .tup cs => okL k cs
  | .fn _ first caps => okL k first && okL k caps
  | .ifc _ x => okI k x
  | .op _ t _ _ => decide (t < k)
  | .os _ t _ _ => decide (t < k)
  | .oa _ t _ _ _ => decide (t < k)
  | .om t => decide (t < k)
  | .v _ => true
  | .sl _ _ => true
  | .ip _ => true
  | .any => true
def okL (k : Nat) : List PV → Bool
  | [] => true
  | x :: xs => okI k x && okL k xs
end

theorem renL_eq (f : Nat → Nat) (l : List PV) : renL f l = l.map (ren f) := by
  induction l with
  | nil => rfl
  | cons x xs ih => simp [renL, ih]
theorem okL_eq (k : Nat) (l : List PV) : okL k l = l.all (okI k) := by
  induction l with
  | nil => rfl
  | cons x xs ih => simp [okL, ih]

def renB (f : Nat → Nat) : Blk → Blk
  | .rows sz rs => .rows sz (rs.map (renL f))
  | .mib es => .mib es
def okB (k : Nat) : Blk → Bool
  | .rows _ rs => rs.all (okL k)
  | .mib _ => true

theorem ren_in {w : World} {O O' : Nat → Prop} {μ μ' : Nat → Mu} {f : Nat → Nat} {k : Nat} (hO : ∀ b, O' b → O b) (hμ : ∀ t, t < k → μ' t = μ (f t)) {q : PV} {y : Value}
    (h : Rep w O μ q y) : ∀ p, q = ren f p → okI k p = true → Rep w O' μ' p y := by
  have hk : Keeps w O w O' := ⟨Nat.le_refl _, fun b _ hb => ⟨rfl, fun h => hb (hO b h)⟩⟩
  induction h with
  | pure h =>
    rename_i p0 y0
    intro p hp hok
    have h' := h.mono hk
    clear h
    revert p
    induction h' with
    | v x => intro p hp _; cases p <;> simp [ren] at hp; subst hp; exact .pure (.v x)
    | agg cs ys hl h ih =>
      intro p hp hok; cases p <;> simp [ren] at hp
      rename_i ds
      subst hp
      rw [renL_eq] at hl ih
      refine .agg ds ys (by simpa using hl) fun i p y h1 h2 => ih i (ren f p) y (by simp [h1]) h2 p rfl ?_
      simp only [okI, okL_eq, List.all_eq_true] at hok
      exact hok p (List.mem_of_getElem? h1)
    | tup cs ys hl h ih =>
      intro p hp hok; cases p <;> simp [ren] at hp
      rename_i ds
      subst hp
      rw [renL_eq] at hl ih
      refine .tup ds ys (by simpa using hl) fun i p y h1 h2 => ih i (ren f p) y (by simp [h1]) h2 p rfl ?_
      simp only [okI, okL_eq, List.all_eq_true] at hok
      exact hok p (List.mem_of_getElem? h1)
    | nil full a cap hf => intro p hp _; cases p <;> simp [ren] at hp; obtain ⟨rfl, rfl⟩ := hp; exact .pure (.nil _ a cap hf)
    | sl full rows sz b off cap vs hsz hcap hlen hf hO hb hc hr _ =>
      intro p hp _; cases p <;> simp [ren] at hp; obtain ⟨rfl, rfl⟩ := hp; exact .pure (.sl _ _ sz b off cap vs hsz hcap hlen hf hO hb hc hr)
    | ip cs b off vs hO hb hc hr _ => intro p hp _; cases p <;> simp [ren] at hp; subst hp; exact .pure (.ip _ b off vs hO hb hc hr)
    | fn g first caps xs ys hl hl' h h' ih ih' =>
      intro p hp hok; cases p <;> simp [ren] at hp
      rename_i g' fs cs
      obtain ⟨rfl, rfl, rfl⟩ := hp
      rw [renL_eq] at hl ih hl' ih'
      simp only [okI, okL_eq, Bool.and_eq_true, List.all_eq_true] at hok
      exact .fn _ fs cs xs ys (by simpa using hl) (by simpa using hl') (fun i p y h1 h2 => ih i (ren f p) y (by simp [h1]) h2 p rfl (hok.1 p (List.mem_of_getElem? h1)))
        (fun i p y h1 h2 => ih' i (ren f p) y (by simp [h1]) h2 p rfl (hok.2 p (List.mem_of_getElem? h1)))
    | ifc ty x y h ih =>
      intro p hp hok; cases p <;> simp [ren] at hp
      obtain ⟨rfl, rfl⟩ := hp
      exact .ifc _ _ y (ih _ rfl (by simpa [okI] using hok))
  | any y => intro p hp _; cases p <;> simp [ren] at hp; exact .any y
  | agg cs ys hl h ih =>
    intro p hp hok; cases p <;> simp [ren] at hp
    rename_i ds
    subst hp
    rw [renL_eq] at hl ih
    refine .agg ds ys (by simpa using hl) fun i p y h1 h2 => ih i (ren f p) y (by simp [h1]) h2 p rfl ?_
    simp only [okI, okL_eq, List.all_eq_true] at hok
    exact hok p (List.mem_of_getElem? h1)
  | tup cs ys hl h ih =>
    intro p hp hok; cases p <;> simp [ren] at hp
    rename_i ds
    subst hp
    rw [renL_eq] at hl ih
    refine .tup ds ys (by simpa using hl) fun i p y h1 h2 => ih i (ren f p) y (by simp [h1]) h2 p rfl ?_
    simp only [okI, okL_eq, List.all_eq_true] at hok
    exact hok p (List.mem_of_getElem? h1)
  | fn g first caps xs ys hl hl' h h' ih ih' =>
    intro p hp hok; cases p <;> simp [ren] at hp
    rename_i g' fs cs
    obtain ⟨rfl, rfl, rfl⟩ := hp
    rw [renL_eq] at hl ih hl' ih'
    simp only [okI, okL_eq, Bool.and_eq_true, List.all_eq_true] at hok
    exact .fn _ fs cs xs ys (by simpa using hl) (by simpa using hl') (fun i p y h1 h2 => ih i (ren f p) y (by simp [h1]) h2 p rfl (hok.1 p (List.mem_of_getElem? h1)))
      (fun i p y h1 h2 => ih' i (ren f p) y (by simp [h1]) h2 p rfl (hok.2 p (List.mem_of_getElem? h1)))
  | ifc ty x y h ih =>
    intro p hp hok; cases p <;> simp [ren] at hp
    obtain ⟨rfl, rfl⟩ := hp
    exact .ifc _ _ y (ih _ rfl (by simpa [okI] using hok))
  | op sz t i off b h =>
    intro p hp hok; cases p <;> simp [ren] at hp
    obtain ⟨rfl, rfl, rfl, rfl⟩ := hp
    exact .op _ _ _ _ b ((hμ _ (by simpa [okI] using hok)).trans h)
  | os sz t i n b cap h hn hlen hs =>
    intro p hp hok; cases p <;> simp [ren] at hp
    obtain ⟨rfl, rfl, rfl, rfl⟩ := hp
    exact .os _ _ _ _ b cap ((hμ _ (by simpa [okI] using hok)).trans h) hn hlen hs
  | ph sz t a h =>
    intro p hp hok; cases p <;> simp [ren] at hp
    obtain ⟨rfl, rfl, rfl, rfl⟩ := hp
    exact .ph _ _ a ((hμ _ (by simpa [okI] using hok)).trans h)
  | oa sz t i off n b cap h hn hlen =>
    intro p hp hok; cases p <;> simp [ren] at hp
    obtain ⟨rfl, rfl, rfl, rfl, rfl⟩ := hp
    exact .oa _ _ _ _ _ b cap ((hμ _ (by simpa [okI] using hok)).trans h) hn hlen
  | om t b h =>
    intro p hp hok; cases p <;> simp [ren] at hp
    subst hp
    exact .om _ b ((hμ _ (by simpa [okI] using hok)).trans h)

theorem ren_out {w : World} {O O' : Nat → Prop} {μ μ' : Nat → Mu} {f : Nat → Nat} (hO : ∀ b, O' b → O b) (hμ : ∀ t, μ t ≠ .no → μ' (f t) = μ t) {p : PV} {y : Value}
    (h : Rep w O μ p y) : Rep w O' μ' (ren f p) y := by
  have hk : Keeps w O w O' := ⟨Nat.le_refl _, fun b _ hb => ⟨rfl, fun h => hb (hO b h)⟩⟩
  induction h with
  | pure h =>
    have h' := h.mono hk
    clear h
    induction h' with
    | v x => exact .pure (.v x)
    | agg cs ys hl h ih =>
      refine .agg _ ys (by simpa [renL_eq] using hl) fun i p y h1 h2 => ?_
      rw [renL_eq, List.getElem?_map] at h1
      cases hc : cs[i]? with
      | none => simp [hc] at h1
      | some c => simp [hc] at h1; subst h1; exact ih i c y hc h2
    | tup cs ys hl h ih =>
      refine .tup _ ys (by simpa [renL_eq] using hl) fun i p y h1 h2 => ?_
      rw [renL_eq, List.getElem?_map] at h1
      cases hc : cs[i]? with
      | none => simp [hc] at h1
      | some c => simp [hc] at h1; subst h1; exact ih i c y hc h2
    | nil full a cap hf => exact .pure (.nil _ a cap hf)
    | sl full rows sz b off cap vs hsz hcap hlen hf hO hb hc hr _ => exact .pure (.sl _ _ sz b off cap vs hsz hcap hlen hf hO hb hc hr)
    | ip cs b off vs hO hb hc hr _ => exact .pure (.ip _ b off vs hO hb hc hr)
    | fn g first caps xs ys hl hl' h h' ih ih' =>
      refine .fn g _ _ xs ys (by simpa [renL_eq] using hl) (by simpa [renL_eq] using hl') (fun i p y h1 h2 => ?_) (fun i p y h1 h2 => ?_)
      · rw [renL_eq, List.getElem?_map] at h1
        cases hc : first[i]? with
        | none => simp [hc] at h1
        | some c => simp [hc] at h1; subst h1; exact ih i c y hc h2
      · rw [renL_eq, List.getElem?_map] at h1
        cases hc : caps[i]? with
        | none => simp [hc] at h1
        | some c => simp [hc] at h1; subst h1; exact ih' i c y hc h2
    | ifc ty x y h ih => exact .ifc ty _ y ih
  | any y => exact .any y
  | agg cs ys hl h ih =>
    refine .agg _ ys (by simpa [renL_eq] using hl) fun i p y h1 h2 => ?_
    rw [renL_eq, List.getElem?_map] at h1
    cases hc : cs[i]? with
    | none => simp [hc] at h1
    | some c => simp [hc] at h1; subst h1; exact ih i c y hc h2
  | tup cs ys hl h ih =>
    refine .tup _ ys (by simpa [renL_eq] using hl) fun i p y h1 h2 => ?_
    rw [renL_eq, List.getElem?_map] at h1
    cases hc : cs[i]? with
    | none => simp [hc] at h1
    | some c => simp [hc] at h1; subst h1; exact ih i c y hc h2
  | fn g first caps xs ys hl hl' h h' ih ih' =>
    refine .fn g _ _ xs ys (by simpa [renL_eq] using hl) (by simpa [renL_eq] using hl') (fun i p y h1 h2 => ?_) (fun i p y h1 h2 => ?_)
    · rw [renL_eq, List.getElem?_map] at h1
      cases hc : first[i]? with
      | none => simp [hc] at h1
      | some c => simp [hc] at h1; subst h1; exact ih i c y hc h2
    · rw [renL_eq, List.getElem?_map] at h1
      cases hc : caps[i]? with
      | none => simp [hc] at h1
      | some c => simp [hc] at h1; subst h1; exact ih' i c y hc h2
  | ifc ty x y h ih => exact .ifc ty _ y ih
  | op sz t i off b h => exact .op _ _ _ _ b ((hμ t (by rw [h]; simp)).trans h)
  | os sz t i n b cap h hn hlen hs => exact .os _ _ _ _ b cap ((hμ t (by rw [h]; simp)).trans h) hn hlen hs
  | ph sz t a h => exact .ph _ _ a ((hμ t (by rw [h]; simp)).trans h)
  | oa sz t i off n b cap h hn hlen => exact .oa _ _ _ _ _ b cap ((hμ t (by rw [h]; simp)).trans h) hn hlen
  | om t b h => exact .om _ b ((hμ t (by rw [h]; simp)).trans h)

theorem brep_in {w : World} {O O' : Nat → Prop} {μ μ' : Nat → Mu} {f : Nat → Nat} {k : Nat} (hO : ∀ b, O' b → O b) (hμ : ∀ t, t < k → μ' t = μ (f t)) {B : Blk} {m : Mu}
    (h : BRep w O μ (renB f B) m) (hok : okB k B = true) : BRep w O' μ' B m := by
  cases B with
  | mib es => cases m <;> exact h
  | rows sz rs =>
    cases m with
    | no => exact h
    | ph => simpa [BRep, renB] using h
    | «at» b =>
      obtain ⟨c, ty, lo, hi, e1, e2, e3, e4, e5⟩ := h
      refine ⟨c, ty, lo, hi, e1, e2, by simpa using e3, fun r hr => ?_, fun i r j p h1 h2 => ?_⟩
      · have := e4 (renL f r) (List.mem_map.2 ⟨r, hr, rfl⟩)
        simpa [renL_eq] using this
      · obtain ⟨y, hy, hrep⟩ := e5 i (renL f r) j (ren f p) (by simp [h1]) (by simp [renL_eq, h2])
        refine ⟨y, hy, ren_in hO hμ hrep p rfl ?_⟩
        simp only [okB, List.all_eq_true, okL_eq] at hok
        exact hok r (List.mem_of_getElem? h1) p (List.mem_of_getElem? h2)

theorem brep_out {w : World} {O O' : Nat → Prop} {μ μ' : Nat → Mu} {f : Nat → Nat} (hO : ∀ b, O' b → O b) (hμ : ∀ t, μ t ≠ .no → μ' (f t) = μ t) {B : Blk} {m : Mu}
    (h : BRep w O μ B m) : BRep w O' μ' (renB f B) m := by
  cases B with
  | mib es => cases m <;> exact h
  | rows sz rs =>
    cases m with
    | no => exact h
    | ph => simpa [BRep, renB] using h
    | «at» b =>
      obtain ⟨c, ty, lo, hi, e1, e2, e3, e4, e5⟩ := h
      refine ⟨c, ty, lo, hi, e1, e2, by simpa using e3, fun r hr => ?_, fun i r j p h1 h2 => ?_⟩
      · obtain ⟨r', hr', rfl⟩ := List.mem_map.1 hr
        have := e4 r' hr'
        simpa [renL_eq] using this
      · rw [List.getElem?_map] at h1
        cases hr : rs[i]? with
        | none => simp [hr] at h1
        | some r' =>
          simp only [hr, Option.map_some, Option.some.injEq] at h1
          subst h1
          rw [renL_eq, List.getElem?_map] at h2
          cases hp : r'[j]? with
          | none => simp [hp] at h2
          | some p' =>
            simp only [hp, Option.map_some, Option.some.injEq] at h2
            subst h2
            obtain ⟨y, hy, hrep⟩ := e5 i r' j p' hr hp
            exact ⟨y, hy, ren_out hO hμ hrep⟩

end
end Go.Am
/- What a store and a new block do to a state; running parts of the model that touch no memory. -/
namespace Go.Am
variable {Γ : Nat → Option Obj} {P : Program}

/-! ### Parts that touch no memory -/
def sc {α : Type} (P : Program) : Sem α → Option α
  | .pure a => some a
  | .program k => sc P (k P)
  | .mark _ k => sc P k
  | _ => none

theorem sc_run {α : Type} {s : Sem α} {x : α} (h : sc P s = some x) (w : World) : s.run P w = .ok x w := by
  induction s with
  | pure a => simp [sc] at h; subst h; simp [Sem.run]
  | program k ih => simp only [sc] at h; simp only [Sem.run]; exact ih P h
  | mark m k ih => simp only [sc] at h; simp only [Sem.run]; exact ih h
  | _ => simp [sc] at h

theorem sc_pure {α : Type} (x : α) : sc P (pure x : Sem α) = some x := rfl
theorem sc_pure' {α : Type} (x : α) : sc P (Sem.pure x) = some x := rfl
theorem sc_bind' {α β : Type} (s : Sem α) (f : α → Sem β) : sc P (s.bind f) = (sc P s).bind fun x => sc P (f x) := by
  induction s with
  | pure a => rfl
  | program k ih => simp only [Sem.bind, sc, ih]
  | mark m k ih => simp only [Sem.bind, sc, ih]
  | _ => rfl
theorem sc_bind {α β : Type} (s : Sem α) (f : α → Sem β) : sc P (s >>= f) = (sc P s).bind fun x => sc P (f x) := sc_bind' s f

/-! ### One block turned -/
def setBlk (w : World) (b : Nat) (o : Obj) : World := { w with heap := w.heap.setIfInBounds b o }

theorem setBlk_same {w : World} {b : Nat} {o : Obj} (h : b < w.heap.size) : (setBlk w b o).heap[b]? = some o := by simp [setBlk, h]
theorem setBlk_ne {w : World} {b b' : Nat} {o : Obj} (h : b' ≠ b) : (setBlk w b o).heap[b']? = w.heap[b']? := by
  simp only [setBlk]; exact Array.getElem?_setIfInBounds_ne (Ne.symm h)
theorem setBlk_size {w : World} {b : Nat} {o : Obj} : (setBlk w b o).heap.size = w.heap.size := by simp [setBlk]

theorem lt_of_heap {w : World} {b : Nat} {o : Obj} (h : w.heap[b]? = some o) : b < w.heap.size := (Array.getElem?_eq_some_iff.1 h).1

theorem own_lt {F : Nat → Prop} {μ : Nat → Mu} {σ : Nat → Slot} {w : World} (h : SRel Γ F w μ σ) {b : Nat} (hb : Own μ σ b) : b < w.heap.size := by
  obtain ⟨t, B, ht, hm⟩ := hb
  have h1 := h.live t B ht
  rw [hm] at h1
  cases B with
  | rows sz rs => obtain ⟨c, ty, lo, hi, e1, _⟩ := h1; exact lt_of_heap e1
  | mib es => obtain ⟨ents, clock, e1, _⟩ := h1; exact lt_of_heap e1

theorem ownF_lt {F : Nat → Prop} {μ : Nat → Mu} {σ : Nat → Slot} {w : World} (h : SRel Γ F w μ σ) {b : Nat} (hb : OwnF F μ σ b) : b < w.heap.size :=
  hb.elim (h.ffin b) (own_lt h)

theorem Own.upd_live {μ : Nat → Mu} {σ : Nat → Slot} {t : Nat} {B B' : Blk} (ht : σ t = .live B) (b : Nat) : Own μ (upd σ t (.live B')) b ↔ Own μ σ b := by
  constructor
  · rintro ⟨u, B2, hu, hm⟩
    by_cases e : u = t
    · subst e; exact ⟨u, B, ht, hm⟩
    · rw [upd_ne _ _ e] at hu; exact ⟨u, B2, hu, hm⟩
  · rintro ⟨u, B2, hu, hm⟩
    by_cases e : u = t
    · subst e; exact ⟨u, B', upd_same _ _ _, hm⟩
    · exact ⟨u, B2, by rw [upd_ne _ _ e]; exact hu, hm⟩

theorem ownF_upd_live {F : Nat → Prop} {μ : Nat → Mu} {σ : Nat → Slot} {t : Nat} {B B' : Blk} (ht : σ t = .live B) : OwnF F μ (upd σ t (.live B')) = OwnF F μ σ := by
  funext b; exact propext (or_congr_right (Own.upd_live ht b))

theorem brep_keep {w w' : World} {O O' : Nat → Prop} {μ μ' : Nat → Mu} (hk : Keeps w O w' O') (hs : ∀ b, b < w.heap.size → w'.shape? b = w.shape? b)
    (hμ : MuExt μ μ') {B : Blk} {m : Mu} (hb : ∀ b, m = .at b → w'.heap[b]? = w.heap[b]?) (h : BRep w O μ B m) : BRep w' O' μ' B m := by
  cases B with
  | rows sz rs =>
    cases m with
    | no => exact h
    | ph => exact h
    | «at» b =>
      obtain ⟨c, ty, lo, hi, e1, e2, e3, e4, e5⟩ := h
      exact ⟨c, ty, lo, hi, (hb b rfl).trans e1, e2, e3, e4, fun i r j p h1 h2 => let ⟨y, e6, e7⟩ := e5 i r j p h1 h2; ⟨y, e6, e7.mono hk hs hμ⟩⟩
  | mib es =>
    cases m with
    | «at» b => obtain ⟨ents, clock, e1, e2⟩ := h; exact ⟨ents, clock, (hb b rfl).trans e1, e2⟩
    | no => exact h
    | ph => exact h

/-- A block of the call's own is turned. -/
theorem srel_set {F : Nat → Prop} {μ : Nat → Mu} {σ : Nat → Slot} {w : World} (h : SRel Γ F w μ σ) {t b : Nat} {B B' : Blk} {o : Obj} (ht : σ t = .live B) (hm : μ t = .at b)
    (hsh : (setBlk w b o).shape? b = w.shape? b) (hB : BRep (setBlk w b o) (OwnF F μ σ) μ B' (.at b)) :
    SRel Γ F (setBlk w b o) μ (upd σ t (.live B')) ∧ Ext w (Own μ σ) (setBlk w b o) (Own μ (upd σ t (.live B'))) := by
  have hown : Own μ σ b := ⟨t, B, ht, hm⟩
  have hlt := own_lt h hown
  have hO := ownF_upd_live (F := F) (μ := μ) (B' := B') ht
  have hshape : ∀ c, c < w.heap.size → (setBlk w b o).shape? c = w.shape? c := fun c _ => by
    by_cases e : c = b
    · subst e; exact hsh
    · simp only [World.shape?, setBlk_ne e]
  have hk : Keeps w (OwnF F μ σ) (setBlk w b o) (OwnF F μ σ) := ⟨by rw [setBlk_size]; exact Nat.le_refl _, fun c _ hc => ⟨setBlk_ne fun e => hc (by subst e; exact .inr hown), hc⟩⟩
  refine ⟨⟨fun u hu => ?_, fun u B2 hu => ?_, ?_, ?_, fun c hc => by rw [setBlk_size]; exact h.ffin c hc, fun c o' hc => ?_⟩, ⟨by rw [setBlk_size]; exact Nat.le_refl _, fun c _ hO => ⟨setBlk_ne fun e => hO (by subst e; exact hown), fun h' => hO ((Own.upd_live ht c).1 h')⟩, hshape, rfl, rfl⟩⟩
  · by_cases e : u = t
    · subst e; rw [upd_same] at hu; cases hu
    · rw [upd_ne _ _ e] at hu; exact h.fresh u hu
  · rw [hO]
    by_cases e : u = t
    · subst e; rw [upd_same] at hu; cases hu; rw [hm]; exact hB
    · rw [upd_ne _ _ e] at hu
      refine brep_keep hk hshape (MuExt.refl _) (fun c hc => ?_) (h.live u B2 hu)
      exact setBlk_ne fun e' => e (by subst e'; exact h.inj u t B2 B _ hu ht hc hm)
  · intro u v B1 B2 c hu hv h1 h2
    have lift : ∀ x B3, upd σ t (.live B') x = .live B3 → ∃ B4, σ x = .live B4 := fun x B3 hx => by
      by_cases e : x = t
      · subst e; exact ⟨B, ht⟩
      · rw [upd_ne _ _ e] at hx; exact ⟨B3, hx⟩
    obtain ⟨C1, k1⟩ := lift u B1 hu
    obtain ⟨C2, k2⟩ := lift v B2 hv
    exact h.inj u v C1 C2 c k1 k2 h1 h2
  · intro u B2 c hu hc
    by_cases e : u = t
    · subst e; exact h.notF u B c ht hc
    · rw [upd_ne _ _ e] at hu; exact h.notF u B2 c hu hc
  · have h1 := h.gam c o' hc
    rw [hO]
    exact ⟨(setBlk_ne fun e => h1.2 (by subst e; exact .inr hown)).trans h1.1, h1.2⟩

def pushW (w : World) (o : Obj) : World := { w with heap := w.heap.push o }
theorem pushW_new {w : World} {o : Obj} : (pushW w o).heap[w.heap.size]? = some o := by
  simp only [pushW]; exact Array.getElem?_push_size
theorem pushW_old {w : World} {o : Obj} {b : Nat} (h : b < w.heap.size) : (pushW w o).heap[b]? = w.heap[b]? := by
  simp only [pushW]; rw [Array.getElem?_push_lt h, Array.getElem?_eq_getElem h]

/-- A new block. -/
theorem srel_new {F : Nat → Prop} {μ : Nat → Mu} {σ : Nat → Slot} {w : World} (h : SRel Γ F w μ σ) {t : Nat} {B : Blk} {o : Obj} (ht : σ t = .fresh)
    (hB : BRep (pushW w o) (OwnF F (upd μ t (.at w.heap.size)) (upd σ t (.live B))) (upd μ t (.at w.heap.size)) B (.at w.heap.size)) :
    SRel Γ F (pushW w o) (upd μ t (.at w.heap.size)) (upd σ t (.live B)) ∧ Ext w (Own μ σ) (pushW w o) (Own (upd μ t (.at w.heap.size)) (upd σ t (.live B))) ∧ MuExt μ (upd μ t (.at w.heap.size)) := by
  have hno := h.fresh t ht
  have hme : MuExt μ (upd μ t (.at w.heap.size)) := fun u hu => upd_ne _ _ fun e => hu (by subst e; exact hno)
  have hown : ∀ b, b < w.heap.size → (Own (upd μ t (.at w.heap.size)) (upd σ t (.live B)) b → Own μ σ b) := by
    rintro b hb ⟨u, B2, hu, hm⟩
    by_cases e : u = t
    · subst e; rw [upd_same] at hm; cases hm; exact absurd hb (Nat.lt_irrefl _)
    · rw [upd_ne _ _ e] at hu hm; exact ⟨u, B2, hu, hm⟩
  have hsz : w.heap.size ≤ (pushW w o).heap.size := by simp [pushW]
  have hshape : ∀ c, c < w.heap.size → (pushW w o).shape? c = w.shape? c := fun c hc => by simp only [World.shape?, pushW_old hc]
  have hk : Keeps w (OwnF F μ σ) (pushW w o) (OwnF F (upd μ t (.at w.heap.size)) (upd σ t (.live B))) :=
    ⟨hsz, fun c hc hO => ⟨pushW_old hc, fun h' => hO (h'.imp id (hown c hc))⟩⟩
  refine ⟨⟨fun u hu => ?_, fun u B2 hu => ?_, ?_, ?_, fun c hc => Nat.lt_of_lt_of_le (h.ffin c hc) hsz, fun c o' hc => ?_⟩, ⟨hsz, fun c hc hO => ⟨pushW_old hc, fun h' => hO (hown c hc h')⟩, hshape, rfl, rfl⟩, hme⟩
  · by_cases e : u = t
    · subst e; rw [upd_same] at hu; cases hu
    · rw [upd_ne _ _ e] at hu ⊢; exact h.fresh u hu
  · by_cases e : u = t
    · subst e; rw [upd_same] at hu ⊢; cases hu; exact hB
    · rw [upd_ne _ _ e] at hu ⊢
      exact brep_keep hk hshape hme (fun c hc => pushW_old (own_lt h ⟨u, B2, hu, hc⟩)) (h.live u B2 hu)
  · intro u v B1 B2 c hu hv h1 h2
    by_cases e : u = t
    · subst e
      by_cases e' : v = u
      · exact e'.symm
      · rw [upd_ne _ _ e'] at hv h2
        rw [upd_same] at h1; cases h1
        exact absurd (own_lt h ⟨v, B2, hv, h2⟩) (Nat.lt_irrefl _)
    · rw [upd_ne _ _ e] at hu h1
      by_cases e' : v = t
      · subst e'
        rw [upd_same] at h2; cases h2
        exact absurd (own_lt h ⟨u, B1, hu, h1⟩) (Nat.lt_irrefl _)
      · rw [upd_ne _ _ e'] at hv h2
        exact h.inj u v B1 B2 c hu hv h1 h2
  · intro u B2 c hu hc hF
    by_cases e : u = t
    · subst e; rw [upd_same] at hc; cases hc; exact absurd (h.ffin _ hF) (Nat.lt_irrefl _)
    · rw [upd_ne _ _ e] at hu hc; exact h.notF u B2 c hu hc hF
  · have h1 := h.gam c o' hc
    have hlt := lt_of_heap h1.1
    exact ⟨(pushW_old hlt).trans h1.1, fun h' => h1.2 (h'.imp id (hown c hlt))⟩

/-- A new block, seen from the values that stood before. -/
theorem rep_new {F : Nat → Prop} {μ : Nat → Mu} {σ : Nat → Slot} {w : World} (h : SRel Γ F w μ σ) {t : Nat} {B : Blk} {o : Obj} (ht : σ t = .fresh) {p : PV} {y : Value}
    (hr : Rep w (OwnF F μ σ) μ p y) : Rep (pushW w o) (OwnF F (upd μ t (.at w.heap.size)) (upd σ t (.live B))) (upd μ t (.at w.heap.size)) p y := by
  have hno := h.fresh t ht
  refine hr.mono ⟨by simp [pushW], fun c hc hO => ⟨pushW_old hc, fun h' => hO (h'.imp id ?_)⟩⟩ (fun c hc => by simp only [World.shape?, pushW_old hc])
    (fun u hu => upd_ne _ _ fun e => hu (by subst e; exact hno))
  rintro ⟨u, B2, hu, hm⟩
  by_cases e : u = t
  · subst e; rw [upd_same] at hm; cases hm; exact absurd hc (Nat.lt_irrefl _)
  · rw [upd_ne _ _ e] at hu hm; exact ⟨u, B2, hu, hm⟩

/-! ### Stores into a row of cells -/
def writeAt (c : Array Value) (o : Nat) : List Value → Array Value
  | [] => c
  | v :: vs => writeAt (c.setIfInBounds o v) (o + 1) vs

theorem writeAt_size (vs : List Value) : ∀ (c : Array Value) (o : Nat), (writeAt c o vs).size = c.size := by
  induction vs with
  | nil => intro c o; rfl
  | cons v vs ih => intro c o; simp only [writeAt, ih, Array.size_setIfInBounds]

theorem writeAt_get (vs : List Value) : ∀ (c : Array Value) (o k : Nat), o + vs.length ≤ c.size →
    (writeAt c o vs)[k]? = if o ≤ k ∧ k < o + vs.length then vs[k - o]? else c[k]? := by
  induction vs with
  | nil => intro c o k _; simp only [writeAt, List.length_nil]; rw [if_neg (by omega)]
  | cons v vs ih =>
    intro c o k h
    simp only [List.length_cons] at h ⊢
    rw [writeAt, ih _ _ _ (by simp; omega)]
    by_cases h1 : o + 1 ≤ k ∧ k < o + 1 + vs.length
    · rw [if_pos h1, if_pos (by omega)]
      obtain ⟨d, rfl⟩ : ∃ d, k = o + 1 + d := ⟨k - (o + 1), by omega⟩
      rw [show o + 1 + d - (o + 1) = d from by omega, show o + 1 + d - o = d + 1 from by omega]
      rfl
    · rw [if_neg h1]
      by_cases h2 : k = o
      · subst h2
        rw [if_pos (by omega), Nat.sub_self]
        simp [show k < c.size from by omega]
      · rw [if_neg (by omega)]
        exact Array.getElem?_setIfInBounds_ne (Ne.symm h2)

def isCellV : Value → Bool
  | .agg _ => false
  | .tuple _ => false
  | _ => true

theorem addr_add (b off n : Nat) : (⟨b, off, none⟩ : Addr).add n = ⟨b, off + n, none⟩ := by
  unfold Addr.add
  split
  · rename_i h; simp [h]
  · rfl

theorem run_storeCells (b off : Nat) (ty lo hi : Nat) (hlh : hi ≤ lo) : ∀ (vs : List Value) (i : Nat) (c : Array Value) (w : World), w.heap[b]? = some (.cells c ty (lo, hi)) →
    off + i + vs.length ≤ c.size → (∀ v ∈ vs, isCellV v = true) → (storeCells ⟨b, off, none⟩ vs i).run P w = .ok () (setBlk w b (.cells (writeAt c (off + i) vs) ty (lo, hi))) := by
  intro vs
  induction vs with
  | nil =>
    intro i c w h _ _
    have : setBlk w b (.cells c ty (lo, hi)) = w := by
      have hlt := lt_of_heap h
      have hg : w.heap[b] = .cells c ty (lo, hi) := by simpa [Array.getElem?_eq_getElem hlt] using h
      have e : w.heap.setIfInBounds b (.cells c ty (lo, hi)) = w.heap := by
        apply Array.ext_getElem?
        intro k
        by_cases hk : b = k
        · subst hk; simp [hlt, hg]
        · rw [Array.getElem?_setIfInBounds_ne hk]
      unfold setBlk
      rw [e]
    simp [storeCells, writeAt, this]
  | cons v vs ih =>
    intro i c w h hle hv
    have hlt := lt_of_heap h
    simp only [List.length_cons] at hle
    have hcell : w.cell? ⟨b, off + i, none⟩ = some (c[off + i]'(by omega)) := by simp [World.cell?, h]
    have hfr : w.frozen? ⟨b, off + i, none⟩ = false := by
      simp only [World.frozen?, h]
      simp; omega
    have hset : w.setCell ⟨b, off + i, none⟩ v = setBlk w b (.cells (c.setIfInBounds (off + i) v) ty (lo, hi)) := by
      simp only [World.setCell, setBlk]
      congr 1
      apply Array.ext_getElem?
      intro k
      rw [Array.getElem?_modify]
      by_cases hk : b = k
      · subst hk
        rw [h]
        simp [hlt]
      · simp [hk, Array.getElem?_setIfInBounds_ne hk]
    have hstore : (store ⟨b, off + i, none⟩ v).run P w = .ok () (setBlk w b (.cells (c.setIfInBounds (off + i) v) ty (lo, hi))) := by
      have hc := hv v (List.mem_cons_self ..)
      rw [← hset]
      cases v <;> simp [isCellV] at hc <;> simp [store, Sem.run, hcell, hfr]
    have h2 := ih (i + 1) (c.setIfInBounds (off + i) v) (setBlk w b (.cells (c.setIfInBounds (off + i) v) ty (lo, hi))) (setBlk_same hlt) (by simp; omega) (fun x hx => hv x (List.mem_cons_of_mem _ hx))
    have h3 : setBlk (setBlk w b (.cells (c.setIfInBounds (off + i) v) ty (lo, hi))) b (.cells (writeAt (c.setIfInBounds (off + i) v) (off + (i + 1)) vs) ty (lo, hi))
        = setBlk w b (.cells (writeAt c (off + i) (v :: vs)) ty (lo, hi)) := by
      simp [setBlk, writeAt, Nat.add_assoc]
    rw [h3] at h2
    simp only [storeCells, Sem.run_bind, addr_add, hstore, Result.andThen]
    exact h2

end Go.Am
/- Operations that make a value and touch no block: each is carried out by the model as the abstract machine has it. -/
namespace Go.Am
variable {Γ : Nat → Option Obj} {P : Program}

theorem OpOK.value {o : Oper} {A : Nat → PV} {p : PV} {rd : List (Nat × Slot)}
    (h : ∀ (F : Nat → Prop) (μ : Nat → Mu) (σ : Nat → Slot) (a : Act) (w : World), SRel Γ F w μ σ → (∀ t, Operand.tmp t ∈ o.op.operands.toList → Rep w (OwnF F μ σ) μ (A t) (a.tmps.getD t undef)) →
      (∀ q ∈ rd, σ q.1 = q.2) → ∃ y, (execOp a.eval o).run P w = .ok (.value y) w ∧ Rep w (OwnF F μ σ) μ p y) : OpOK Γ P o A ⟨p, rd, []⟩ := by
  intro F μ σ a w hs ht hr
  obtain ⟨y, he, hy⟩ := h F μ σ a w hs ht hr
  rw [he]
  exact ⟨μ, hs, hy, Ext.refl _ _, MuExt.refl _⟩

theorem ev_of {w : World} {O : Nat → Prop} {μ : Nat → Mu} {A : Nat → PV} {a : Act} {o : Oper} (h : ∀ t, Operand.tmp t ∈ o.op.operands.toList → Rep w O μ (A t) (a.tmps.getD t undef))
    {x : Operand} (hx : x ∈ o.op.operands.toList) : Rep w O μ (ev A x) (a.eval x) := ev_rep fun t e => h t (by subst e; exact hx)

theorem ev_of_v {w : World} {O : Nat → Prop} {μ : Nat → Mu} {A : Nat → PV} {a : Act} {o : Oper} (h : ∀ t, Operand.tmp t ∈ o.op.operands.toList → Rep w O μ (A t) (a.tmps.getD t undef))
    {x : Operand} (hx : x ∈ o.op.operands.toList) {c : Value} (hc : ev A x = .v c) : a.eval x = c := by
  have h1 := ev_of h hx
  rw [hc] at h1
  exact h1.of_v

theorem ok_move {o : Oper} {A : Nat → PV} {x : Operand} (ho : o.op = .move x) : OpOK Γ P o A ⟨ev A x, [], []⟩ :=
  .value fun F μ σ a w _ ht _ => ⟨a.eval x, by simp [execOp, ho], ev_of ht (by rw [ho]; simp [Op.operands])⟩
theorem ok_assign {o : Oper} {A : Nat → PV} {x : Operand} (ho : o.op = .assign x) : OpOK Γ P o A ⟨ev A x, [], []⟩ :=
  .value fun F μ σ a w _ ht _ => ⟨a.eval x, by simp [execOp, ho], ev_of ht (by rw [ho]; simp [Op.operands])⟩

theorem ok_pick {o : Oper} {A : Nat → PV} {c x y : Operand} {t : Bool} (ho : o.op = .pick c x y) (hc : ev A c = .v (.bool t)) : OpOK Γ P o A ⟨cond t (ev A x) (ev A y), [], []⟩ :=
  .value fun F μ σ a w _ ht _ => by
    have h1 := ev_of_v ht (x := c) (by rw [ho]; simp [Op.operands]) hc
    have hx := ev_of ht (x := x) (by rw [ho]; simp [Op.operands])
    have hy := ev_of ht (x := y) (by rw [ho]; simp [Op.operands])
    refine ⟨if t then a.eval x else a.eval y, by cases t <;> simp [execOp, ho, h1, asBool], ?_⟩
    cases t
    · exact hy
    · exact hx

def vOf : PV → Option Value
  | .v x => some x
  | _ => none
def vsOf : List PV → Option (List Value)
  | [] => some []
  | p :: ps => match vOf p, vsOf ps with
    | some x, some xs => some (x :: xs)
    | _, _ => none

/-- A value without memory, whole. -/
def toV : PV → Option Value
  | .v x => some x
  | .agg cs => match vsOf cs with
    | some l => some (.agg l.toArray)
    | none => none
  | _ => none

theorem toV_list {w : World} {O : Nat → Prop} {μ : Nat → Mu} : ∀ (cs : List PV) (l : List Value) (ys : List Value), vsOf cs = some l →
    cs.length = ys.length → (∀ (i : Nat) p y, cs[i]? = some p → ys[i]? = some y → Rep w O μ p y) → ys = l := by
  intro cs
  induction cs with
  | nil => intro l ys h hl _; cases ys with
    | nil => simpa [vsOf] using h
    | cons y ys => simp at hl
  | cons c cs ih =>
    intro l ys h hl hr
    cases ys with
    | nil => simp at hl
    | cons y ys =>
      simp only [vsOf] at h
      split at h
      · rename_i x xs hx hxs
        cases h
        have hc : c = .v x := by cases c <;> simp [vOf] at hx; rw [hx]
        subst hc
        rw [(hr 0 (.v x) y rfl rfl).of_v, ih xs ys hxs (by simpa using hl) (fun i p z h1 h2 => hr (i + 1) p z (by simpa using h1) (by simpa using h2))]
      · cases h

theorem toV_rep {w : World} {O : Nat → Prop} {μ : Nat → Mu} {p : PV} {y c : Value} (h : Rep w O μ p y) (hc : toV p = some c) : y = c := by
  cases p with
  | v x => simp [toV] at hc; subst hc; exact h.of_v
  | agg cs =>
    simp only [toV] at hc
    split at hc
    · rename_i l hl
      cases hc
      cases h with
      | pure h =>
        cases h with
        | agg _ ys hl' hh =>
          have := toV_list (w := w) (O := O) (μ := μ) cs l ys.toList hl (by simpa using hl') (fun i p y h1 h2 => .pure (hh i p y h1 (by simpa using h2)))
          rw [← this]
      | agg _ ys hl' hh =>
        have := toV_list (w := w) (O := O) (μ := μ) cs l ys.toList hl (by simpa using hl') (fun i p y h1 h2 => hh i p y h1 (by simpa using h2))
        rw [← this]
    · cases hc
  | _ => simp [toV] at hc

def binS (P : Program) (op : BinOp) (t : TypeId) (x y : Operand) (a b : Value) : Option Value := sc P (do eqGuard op t x y a b; binOp op t a b)

theorem ok_binOp {o : Oper} {A : Nat → PV} {op : BinOp} {t t' : TypeId} {x y : Operand} {a b c : Value} (ho : o.op = .binOp op t x y t') (hx : toV (ev A x) = some a) (hy : toV (ev A y) = some b)
    (hc : binS P op t x y a b = some c) : OpOK Γ P o A ⟨.v c, [], []⟩ :=
  .value fun F μ σ s w _ ht _ => by
    have h1 := toV_rep (ev_of ht (x := x) (by rw [ho]; simp [Op.operands])) hx
    have h2 := toV_rep (ev_of ht (x := y) (by rw [ho]; simp [Op.operands])) hy
    refine ⟨c, ?_, .pure (.v c)⟩
    have h3 := sc_run hc w
    simp only [execOp, ho, h1, h2]
    rw [Sem.run_bind, h3]; rfl

/-- The same, told by its run. -/
def BinR (P : Program) (op : BinOp) (t : TypeId) (x y : Operand) (a b c : Value) : Prop := ∀ w : World, (do eqGuard op t x y a b; binOp op t a b : Sem Value).run P w = .ok c w

theorem ok_binOp_run {o : Oper} {A : Nat → PV} {op : BinOp} {t t' : TypeId} {x y : Operand} {a b c : Value} (ho : o.op = .binOp op t x y t') (hx : toV (ev A x) = some a) (hy : toV (ev A y) = some b)
    (hc : BinR P op t x y a b c) : OpOK Γ P o A ⟨.v c, [], []⟩ :=
  .value fun F μ σ s w _ ht _ => by
    have h1 := toV_rep (ev_of ht (x := x) (by rw [ho]; simp [Op.operands])) hx
    have h2 := toV_rep (ev_of ht (x := y) (by rw [ho]; simp [Op.operands])) hy
    refine ⟨c, ?_, .pure (.v c)⟩
    have h3 := hc w
    simp only [execOp, ho, h1, h2]
    rw [Sem.run_bind, h3]; rfl

theorem ok_unOp {o : Oper} {A : Nat → PV} {op : UnOp} {t : TypeId} {x : Operand} {a c : Value} (ho : o.op = .unOp op t x) (hx : toV (ev A x) = some a)
    (hc : sc P (Op.unary op a) = some c) : OpOK Γ P o A ⟨.v c, [], []⟩ :=
  .value fun F μ σ s w _ ht _ => by
    have h1 := toV_rep (ev_of ht (x := x) (by rw [ho]; simp [Op.operands])) hx
    refine ⟨c, ?_, .pure (.v c)⟩
    have h3 := sc_run hc w
    simp only [execOp, ho, h1]
    rw [Sem.run_bind, h3]; rfl

theorem ok_convert {o : Oper} {A : Nat → PV} {s d : TypeId} {x : Operand} {a c : Value} (ho : o.op = .convert s d x) (hx : toV (ev A x) = some a)
    (hc : sc P (convert s d a) = some c) : OpOK Γ P o A ⟨.v c, [], []⟩ :=
  .value fun F μ σ _ w _ ht _ => by
    have h1 := toV_rep (ev_of ht (x := x) (by rw [ho]; simp [Op.operands])) hx
    refine ⟨c, ?_, .pure (.v c)⟩
    have h3 := sc_run hc w
    simp only [execOp, ho, h1]
    rw [Sem.run_bind, h3]; rfl

theorem ok_index {o : Oper} {A : Nat → PV} {t : TypeId} {x y : Operand} {a b c : Value} (ho : o.op = .index t x y) (hx : toV (ev A x) = some a) (hy : toV (ev A y) = some b)
    (hc : sc P (Instr.index t a b) = some c) : OpOK Γ P o A ⟨.v c, [], []⟩ :=
  .value fun F μ σ _ w _ ht _ => by
    have h1 := toV_rep (ev_of ht (x := x) (by rw [ho]; simp [Op.operands])) hx
    have h2 := toV_rep (ev_of ht (x := y) (by rw [ho]; simp [Op.operands])) hy
    refine ⟨c, ?_, .pure (.v c)⟩
    have h3 := sc_run hc w
    simp only [execOp, ho, h1, h2]
    rw [Sem.run_bind, h3]; rfl

theorem reps_map {w : World} {O : Nat → Prop} {μ : Nat → Mu} {A : Nat → PV} {a : Act} (l : List Operand) (h : ∀ x ∈ l, Rep w O μ (ev A x) (a.eval x)) (i : Nat) (p : PV) (y : Value)
    (h1 : (l.map (ev A))[i]? = some p) (h2 : (l.map a.eval)[i]? = some y) : Rep w O μ p y := by
  rw [List.getElem?_map] at h1 h2
  cases hx : l[i]? with
  | none => simp [hx] at h1
  | some x =>
    simp only [hx, Option.map_some, Option.some.injEq] at h1 h2
    subst h1 h2
    exact h x (List.mem_of_getElem? hx)

theorem ok_makeFunc {o : Oper} {A : Nat → PV} {fn : Fn} {first caps : Array Operand} (ho : o.op = .makeFunc fn first caps) :
    OpOK Γ P o A ⟨.fn fn (first.toList.map (ev A)) (caps.toList.map (ev A)), [], []⟩ :=
  .value fun F μ σ a w _ ht _ => by
    refine ⟨.func fn (first.map a.eval) (caps.map a.eval), by simp [execOp, ho, Instr.makeFunc], ?_⟩
    refine .fn fn _ _ _ _ (by simp) (by simp) (fun i p y h1 h2 => ?_) (fun i p y h1 h2 => ?_)
    · exact reps_map first.toList (fun x hx => ev_of ht (by rw [ho]; simp [Op.operands]; exact .inl (by simpa using hx))) i p y h1 (by simpa using h2)
    · exact reps_map caps.toList (fun x hx => ev_of ht (by rw [ho]; simp [Op.operands]; exact .inr (by simpa using hx))) i p y h1 (by simpa using h2)

theorem ok_makeInterface {o : Oper} {A : Nat → PV} {t : TypeId} {x : Operand} (ho : o.op = .makeInterface t x) {d : TypeDesc} (hd : P.underlying t = some d) (hi : ∀ ms, d ≠ .interface ms) :
    OpOK Γ P o A ⟨.ifc t (ev A x), [], []⟩ :=
  .value fun F μ σ a w _ ht _ => by
    refine ⟨.iface t (a.eval x), ?_, .ifc t _ _ (ev_of ht (by rw [ho]; simp [Op.operands]))⟩
    simp only [execOp, ho, Instr.makeInterface]
    rw [Sem.run_bind, Sem.run_bind, run_underlying hd]
    simp only [Result.andThen]
    cases d <;> first | rfl | exact absurd rfl (hi _)

theorem Rep.tup_get {w : World} {O : Nat → Prop} {μ : Nat → Mu} {cs : List PV} {y : Value} (h : Rep w O μ (.tup cs) y) : ∃ ys : Array Value, y = .tuple ys ∧ cs.length = ys.size ∧
    ∀ (i : Nat) p z, cs[i]? = some p → ys[i]? = some z → Rep w O μ p z := by
  cases h with
  | pure h => cases h with
    | tup _ ys hl hh => exact ⟨ys, rfl, hl, fun i p z h1 h2 => .pure (hh i p z h1 h2)⟩
  | tup _ ys hl hh => exact ⟨ys, rfl, hl, hh⟩

theorem Rep.agg_get {w : World} {O : Nat → Prop} {μ : Nat → Mu} {cs : List PV} {y : Value} (h : Rep w O μ (.agg cs) y) : ∃ ys : Array Value, y = .agg ys ∧ cs.length = ys.size ∧
    ∀ (i : Nat) p z, cs[i]? = some p → ys[i]? = some z → Rep w O μ p z := by
  cases h with
  | pure h => cases h with
    | agg _ ys hl hh => exact ⟨ys, rfl, hl, fun i p z h1 h2 => .pure (hh i p z h1 h2)⟩
  | agg _ ys hl hh => exact ⟨ys, rfl, hl, hh⟩

theorem ok_extract {o : Oper} {A : Nat → PV} {x : Operand} {i : Nat} {cs : List PV} {p : PV} (ho : o.op = .extract x i) (hx : ev A x = .tup cs) (hp : cs[i]? = some p) : OpOK Γ P o A ⟨p, [], []⟩ :=
  .value fun F μ σ a w _ ht _ => by
    have h1 := ev_of ht (x := x) (by rw [ho]; simp [Op.operands])
    rw [hx] at h1
    obtain ⟨ys, e, hl, hh⟩ := h1.tup_get
    have hi : i < ys.size := by rw [← hl]; exact (List.getElem?_eq_some_iff.1 hp).1
    refine ⟨ys[i], ?_, hh i p _ hp (by simp [hi])⟩
    simp only [execOp, ho, e, Instr.extract]
    simp [hi]

/-! ### Types -/
def tsz (P : Program) (t : TypeId) : Option Nat := (P.info? t).map (·.size)
def tag (P : Program) (t : TypeId) : Option Bool := (P.underlying t).map fun d => match d with | .struct _ | .array _ _ => true | _ => false
/-- A struct's field: where it begins, its cells. -/
def fld (P : Program) (t : TypeId) (f : Nat) : Option (Nat × Nat × Bool) :=
  match P.underlying t with
  | some (.struct fs) => match fs[f]? with
    | some fd => match tsz P fd.type, tag P fd.type with
      | some n, some g => some (fd.offset, n, g)
      | _, _ => none
    | none => none
  | _ => none
/-- A slice's element: its cells. -/
def sel (P : Program) (t : TypeId) : Option Nat :=
  match P.underlying t with
  | some (.slice e) => tsz P e
  | _ => none
/-- An array: how many, and an element's cells. -/
def ael (P : Program) (t : TypeId) : Option (Nat × Nat) :=
  match P.underlying t with
  | some (.array n e) => (tsz P e).map fun s => (n, s)
  | _ => none
def tzero (P : Program) (t : TypeId) : Option (List PV) := ((P.info? t).bind (·.zero)).map fun z => z.cells.toList.map constCell

theorem run_typeInfo {t : TypeId} {i : TypeInfo} (h : P.info? t = some i) (w : World) : (typeInfo t).run P w = .ok i w := by
  simp [typeInfo, program, Sem.run_bind, Sem.run, h, Result.andThen]
theorem run_sizeOf {t : TypeId} {n : Nat} (h : tsz P t = some n) (w : World) : (sizeOf t).run P w = .ok n w := by
  simp only [tsz, Option.map_eq_some_iff] at h
  obtain ⟨i, hi, rfl⟩ := h
  simp only [sizeOf]
  rw [Sem.run_bind, run_typeInfo hi]; rfl
theorem run_isAgg {t : TypeId} {g : Bool} (h : tag P t = some g) (w : World) : (isAgg t).run P w = .ok g w := by
  simp only [tag, Option.map_eq_some_iff] at h
  obtain ⟨d, hd, rfl⟩ := h
  simp only [isAgg]
  rw [Sem.run_bind, run_underlying hd]
  cases d <;> rfl

theorem fld_spec {t : TypeId} {f off n : Nat} {g : Bool} (h : fld P t f = some (off, n, g)) : ∃ fs fd, P.underlying t = some (.struct fs) ∧ fs[f]? = some fd ∧ fd.offset = off ∧ tsz P fd.type = some n ∧ tag P fd.type = some g := by
  unfold fld at h
  split at h
  · rename_i fs hu
    split at h
    · rename_i fd hf
      split at h
      · rename_i n' g' hn hg
        simp only [Option.some.injEq, Prod.mk.injEq] at h
        obtain ⟨rfl, rfl, rfl⟩ := h
        exact ⟨fs, fd, hu, hf, rfl, hn, hg⟩
      · cases h
    · cases h
  · cases h

theorem run_fieldAt {t : TypeId} {f off n : Nat} {g : Bool} (h : fld P t f = some (off, n, g)) (hn : n ≠ 0) (b o : Nat) (w : World) :
    (Instr.fieldAt t (.pointer (some ⟨b, o, none⟩)) f).run P w = .ok (.pointer (some ⟨b, o + off, none⟩)) w := by
  obtain ⟨fs, fd, h1, h2, h3, h4, _⟩ := fld_spec h
  simp only [Instr.fieldAt, Sem.run_bind, run_underlying h1, Result.andThen, h2, Instr.sureAddr, fieldPlace]
  simp only [Sem.run_pure, run_sizeOf h4, hn, if_false, addr_add, h3]

theorem ok_fieldAddr_op {o : Oper} {A : Nat → PV} {t : TypeId} {x : Operand} {f off n sz b i k : Nat} {g : Bool} (ho : o.op = .fieldAddr t x f) (hx : ev A x = .op sz b i k)
    (h : fld P t f = some (off, n, g)) (hn : n ≠ 0) : OpOK Γ P o A ⟨.op sz b i (k + off), [], []⟩ :=
  .value fun F μ σ a w _ ht _ => by
    have h1 := ev_of ht (x := x) (by rw [ho]; simp [Op.operands])
    rw [hx] at h1
    generalize hz : a.eval x = z at h1
    cases h1 with
    | pure h => cases h
    | op _ _ _ _ bb hm =>
      refine ⟨.pointer (some ⟨bb, i * sz + k + off, none⟩), ?_, ?_⟩
      · simp only [execOp, ho, hz]
        rw [Sem.run_bind, run_fieldAt h hn]; rfl
      · rw [Nat.add_assoc]; exact .op sz b i (k + off) bb hm

theorem ok_fieldAddr_ip {o : Oper} {A : Nat → PV} {t : TypeId} {x : Operand} {f off n : Nat} {cs : List PV} {g : Bool} (ho : o.op = .fieldAddr t x f) (hx : ev A x = .ip cs)
    (h : fld P t f = some (off, n, g)) (hn : n ≠ 0) : OpOK Γ P o A ⟨.ip (cs.drop off), [], []⟩ :=
  .value fun F μ σ a w _ ht _ => by
    have h1 := ev_of ht (x := x) (by rw [ho]; simp [Op.operands])
    rw [hx] at h1
    generalize hz : a.eval x = z at h1
    cases h1 with
    | pure h' => cases h' with
      | ip _ bb oo vs hO hb hc hr =>
        refine ⟨.pointer (some ⟨bb, oo + off, none⟩), ?_, .pure (.ip _ bb (oo + off) (fun j => vs (off + j)) hO hb (fun j p hj => ?_) (fun j p hj => ?_))⟩
        · simp only [execOp, ho, hz]
          rw [Sem.run_bind, run_fieldAt h hn]; rfl
        · rw [List.getElem?_drop] at hj
          rw [Nat.add_assoc]; exact hc _ p hj
        · rw [List.getElem?_drop] at hj; exact hr _ p hj

theorem ok_field {o : Oper} {A : Nat → PV} {t : TypeId} {x : Operand} {f off n : Nat} {g : Bool} {cs : List PV} (ho : o.op = .field t x f) (hx : ev A x = .agg cs)
    (h : fld P t f = some (off, n, g)) (hl : off + n ≤ cs.length) (hn : n ≠ 0) : OpOK Γ P o A ⟨if g then .agg ((cs.drop off).take n) else cs.getD off .any, [], []⟩ :=
  .value fun F μ σ a w _ ht _ => by
    have h1 := ev_of ht (x := x) (by rw [ho]; simp [Op.operands])
    rw [hx] at h1
    obtain ⟨ys, e, hlen, hh⟩ := h1.agg_get
    obtain ⟨fs, fd, u1, u2, u3, u4, u5⟩ := fld_spec h
    have hrun : (Instr.field t (a.eval x) f).run P w = (part fd.type ys off).run P w := by
      simp only [Instr.field, e, Sem.run_bind, run_underlying u1, Result.andThen, u2, asAgg, Sem.run_pure, u3]
    cases g with
    | true =>
      refine ⟨.agg (ys.extract off (off + n)), ?_, ?_⟩
      · simp only [execOp, ho]
        rw [Sem.run_bind, hrun]
        simp only [part, Sem.run_bind, run_isAgg u5, run_sizeOf u4, Result.andThen, if_true, Sem.run_pure]
      · refine .agg _ _ (by simp; omega) fun i p y h2 h3 => ?_
        simp only [List.getElem?_take, List.getElem?_drop] at h2
        split at h2
        · rename_i hi
          refine hh (off + i) p y h2 ?_
          rw [Array.getElem?_extract] at h3
          split at h3
          · exact h3
          · cases h3
        · cases h2
    | false =>
      have hi : off < ys.size := by omega
      refine ⟨ys[off], ?_, hh off _ _ (by simp [show off < cs.length from by omega]) (by simp [hi])⟩
      simp only [execOp, ho]
      rw [Sem.run_bind, hrun]
      simp [part, Sem.run_bind, run_isAgg u5, Result.andThen, hi]

end Go.Am
/- Operations that read, write and make memory. -/
namespace Go.Am
variable {Γ : Nat → Option Obj} {P : Program}

theorem run_loadArr {w : World} {b off n ty : Nat} {c : Array Value} {fr : Nat × Nat} (h : w.heap[b]? = some (.cells c ty fr)) (hle : off + n ≤ c.size) :
    (loadCells ⟨b, off, none⟩ n).run P w = .ok (c.extract off (off + n)) w := by
  rw [run_loadCells w ⟨b, off, none⟩ n (fun j => c.getD (off + j) undef) (fun j hj => by
    rw [addr_add]
    simp [World.cell?, h, show off + j < c.size from by omega])]
  congr 1
  apply Array.ext_getElem?
  intro k
  simp only [List.getElem?_toArray, List.getElem?_map, Array.getElem?_extract]
  by_cases hk : k < n
  · simp [hk, show off + k < c.size from by omega, show k < min (off + n) c.size - off from by omega]
  · simp [hk, show ¬ k < min (off + n) c.size - off from by omega]

/-- What a load of a variable of n cells gives, the cells being known. -/
def ldV (g : Bool) (cs : List PV) (off n : Nat) : PV := if g then .agg ((cs.drop off).take n) else cs.getD off .any

theorem ok_load_op {o : Oper} {A : Nat → PV} {t : TypeId} {x : Operand} {sz b i off n : Nat} {g : Bool} {rs : List (List PV)} {row : List PV} (ho : o.op = .load t x) (hx : ev A x = .op sz b i off)
    (hn : tsz P t = some n) (hg : tag P t = some g) (hr : rs[i]? = some row) (hl : off + n ≤ row.length) (h0 : n ≠ 0) :
    OpOK Γ P o A ⟨ldV g row off n, [(b, .live (.rows sz rs))], []⟩ :=
  .value fun F μ σ a w hs ht hrd => by
    have h1 := ev_of ht (x := x) (by rw [ho]; simp [Op.operands])
    rw [hx] at h1
    generalize hz : a.eval x = z at h1
    have hσ : σ b = .live (.rows sz rs) := hrd (b, .live (.rows sz rs)) (List.mem_cons_self ..)
    have hB := hs.live b _ hσ
    cases h1 with
    | pure h => cases h
    | op _ _ _ _ bb hm =>
      rw [hm] at hB
      obtain ⟨c, ty, lo, hi, e1, e2, e3, e4, e5⟩ := hB
      have hi' : i < rs.length := (List.getElem?_eq_some_iff.1 hr).1
      have hrow : row.length = sz := e4 row (List.mem_of_getElem? hr)
      have hfit : i * sz + off + n ≤ c.size := by
        have : (i + 1) * sz ≤ rs.length * sz := Nat.mul_le_mul_right _ hi'
        rw [Nat.add_mul] at this
        omega
      have hrun : (Instr.loadAt t (.pointer (some ⟨bb, i * sz + off, none⟩))).run P w = (if g then .ok (.agg (c.extract (i * sz + off) (i * sz + off + n))) w else .ok (c.getD (i * sz + off) undef) w) := by
        simp only [Instr.loadAt, Instr.sureAddr, loadVar, Sem.run_bind, Sem.run_pure, Result.andThen, run_isAgg hg]
        cases g with
        | true => simp only [if_true, Sem.run_bind, run_sizeOf hn, Result.andThen, run_loadArr e1 hfit, Sem.run_pure]
        | false =>
          have hc : w.cell? ⟨bb, i * sz + off, none⟩ = some (c.getD (i * sz + off) undef) := by simp [World.cell?, e1, show i * sz + off < c.size from by omega]
          simp [load, Sem.run, hc]
      cases g with
      | true =>
        refine ⟨.agg (c.extract (i * sz + off) (i * sz + off + n)), ?_, ?_⟩
        · simp only [execOp, ho, hz]
          rw [Sem.run_bind, hrun]; rfl
        · refine .agg _ _ (by simp; omega) fun j p y h2 h3 => ?_
          simp only [List.getElem?_take, List.getElem?_drop] at h2
          split at h2
          · rename_i hj
            obtain ⟨y', hy', hrep⟩ := e5 i row (off + j) p hr h2
            rw [Array.getElem?_extract] at h3
            split at h3
            · rw [show i * sz + (off + j) = i * sz + off + j from by omega] at hy'
              rw [hy'] at h3
              cases h3
              exact hrep
            · cases h3
          · cases h2
      | false =>
        refine ⟨c.getD (i * sz + off) undef, ?_, ?_⟩
        · simp only [execOp, ho, hz]
          rw [Sem.run_bind, hrun]; rfl
        · obtain ⟨y', hy', hrep⟩ := e5 i row off (row.getD off .any) hr (by simp [show off < row.length from by omega])
          have : c.getD (i * sz + off) undef = y' := by rw [Array.getD_eq_getD_getElem?, hy']; rfl
          rw [this]; exact hrep

theorem ok_load_ip {o : Oper} {A : Nat → PV} {t : TypeId} {x : Operand} {n : Nat} {g : Bool} {cs : List PV} (ho : o.op = .load t x) (hx : ev A x = .ip cs)
    (hn : tsz P t = some n) (hg : tag P t = some g) (hl : n ≤ cs.length) (h0 : n ≠ 0) : OpOK Γ P o A ⟨ldV g cs 0 n, [], []⟩ :=
  .value fun F μ σ a w hs ht hrd => by
    have h1 := ev_of ht (x := x) (by rw [ho]; simp [Op.operands])
    rw [hx] at h1
    generalize hz : a.eval x = z at h1
    cases h1 with
    | pure h => cases h with
      | ip _ bb oo vs hO hb hc hr =>
        have hcell : ∀ j, j < n → w.cell? ((⟨bb, oo, none⟩ : Addr).add j) = some (vs j) := fun j hj => by
          rw [addr_add]; exact hc j (cs[j]'(by omega)) (by simp)
        cases g with
        | true =>
          refine ⟨.agg ((List.range n).map vs).toArray, ?_, ?_⟩
          · simp only [execOp, ho, hz, Instr.loadAt, Instr.sureAddr, loadVar]
            simp only [Sem.run_bind, Sem.run_pure, Result.andThen, run_isAgg hg, if_true, run_sizeOf hn, run_loadCells w _ n vs hcell]
          · refine .agg _ _ (by simp; omega) fun j p y h2 h3 => ?_
            simp only [List.drop_zero, List.getElem?_take] at h2
            split at h2
            · rename_i hj
              simp [hj] at h3
              subst h3
              exact .pure (hr j p h2)
            · cases h2
        | false =>
          have h2 := hcell 0 (by omega)
          rw [addr_add, Nat.add_zero] at h2
          refine ⟨vs 0, ?_, .pure (hr 0 _ (by simp [ldV, show 0 < cs.length from by omega]))⟩
          simp only [execOp, ho, hz, Instr.loadAt, Instr.sureAddr, loadVar]
          simp [Sem.run_bind, Result.andThen, run_isAgg hg, load, Sem.run, h2]

/-! ### Cells of a value -/
def cellsOf : PV → List PV
  | .agg cs => cs
  | p => [p]

/-- It can be laid into cells. -/
def layable : PV → Bool
  | .any => false
  | .tup _ => false
  | .v x => isCellV x
  | _ => true

/-- A cell: no struct, no array. -/
def cellP : PV → Bool
  | .any => false
  | .tup _ => false
  | .agg _ => false
  | .v x => isCellV x
  | _ => true

theorem Rep.cellV {w : World} {O : Nat → Prop} {μ : Nat → Mu} {p : PV} {y : Value} (h : Rep w O μ p y) (hp : cellP p = true) : isCellV y = true := by
  cases h with
  | pure h => cases h <;> first | rfl | (simp [cellP] at hp; done) | (simpa [cellP] using hp)
  | _ => first | rfl | (simp [cellP] at hp)

theorem Rep.cells {w : World} {O : Nat → Prop} {μ : Nat → Mu} {p : PV} {y : Value} (h : Rep w O μ p y) (hp : layable p = true) :
    (cellsOf p).length = y.cells.size ∧ ∀ (i : Nat) q z, (cellsOf p)[i]? = some q → y.cells[i]? = some z → Rep w O μ q z := by
  have one : ∀ (q : PV) (z : Value), isCellV z = true → Rep w O μ q z → [q].length = z.cells.size ∧ ∀ (i : Nat) q' z', [q][i]? = some q' → z.cells[i]? = some z' → Rep w O μ q' z' := by
    intro q z hz hr
    have e : z.cells = #[z] := by cases z <;> first | rfl | (simp [isCellV] at hz)
    rw [e]
    refine ⟨rfl, fun i q' z' h1 h2 => ?_⟩
    cases i with
    | zero => simp at h1 h2; subst h1 h2; exact hr
    | succ i => simp at h1
  cases p with
  | agg cs =>
    obtain ⟨ys, rfl, hl, hh⟩ := h.agg_get
    exact ⟨hl, hh⟩
  | any => simp [layable] at hp
  | tup cs => simp [layable] at hp
  | v x => exact one _ _ (h.cellV (by simpa [layable, cellP] using hp)) h
  | _ => exact one _ _ (h.cellV rfl) h

theorem getElem?_one {α : Type} {l r : List α} {i : Nat} (hi : [r][i]? = some l) : i = 0 := by
  cases i with
  | zero => rfl
  | succ i => simp at hi

theorem rep_ptr0 {w : World} {O : Nat → Prop} {μ : Nat → Mu} {sz t b : Nat} (h : μ t = .at b) : Rep w O μ (.op sz t 0 0) (.pointer (some ⟨b, 0, none⟩)) := by
  have := Rep.op (w := w) (O := O) sz t 0 0 b h
  simpa using this

/-- One variable's block. -/
theorem brep_one {w : World} {O : Nat → Prop} {μ : Nat → Mu} {cs : List PV} {c : Array Value} {ty b : Nat} (h : w.heap[b]? = some (.cells c ty (0, 0))) (hl : cs.length = c.size)
    (hh : ∀ (i : Nat) q z, cs[i]? = some q → c[i]? = some z → Rep w O μ q z) : BRep w O μ (.rows cs.length [cs]) (.at b) := by
  refine ⟨c, ty, 0, 0, h, Nat.le_refl _, by simp [hl], fun r hr => by simp at hr; rw [hr], fun i r j p h1 h2 => ?_⟩
  have hi := getElem?_one h1
  subst hi
  simp at h1
  subst h1
  have hj : j < c.size := by rw [← hl]; exact (List.getElem?_eq_some_iff.1 h2).1
  exact ⟨c[j], by simp [hj], hh j p _ h2 (by simp [hj])⟩

theorem run_newVar (t : TypeId) (v : Value) (w : World) : (newVar t v).run P w = .ok ⟨w.heap.size, 0, none⟩ (pushW w (.cells v.cells t)) := by
  simp only [newVar, newRow, newObj]
  rfl

theorem ok_box {o : Oper} {A : Nat → PV} {t : TypeId} {x : Operand} {nx : Nat} (ho : o.op = .box t x) (hc : layable (ev A x) = true) :
    OpOK Γ P o A ⟨.op (cellsOf (ev A x)).length nx 0 0, [(nx, .fresh)], [(nx, .live (.rows (cellsOf (ev A x)).length [cellsOf (ev A x)]))]⟩ := by
  intro F μ σ a w hs ht hrd
  have h1 := ev_of ht (x := x) (by rw [ho]; simp [Op.operands])
  have hf : σ nx = .fresh := hrd (nx, .fresh) (List.mem_cons_self ..)
  have hrun : (execOp a.eval o).run P w = .ok (.value (.pointer (some ⟨w.heap.size, 0, none⟩))) (pushW w (.cells (a.eval x).cells t)) := by
    simp only [execOp, ho, Instr.box]
    simp only [Sem.run_bind, run_newVar, Result.andThen, Sem.run_pure]
  rw [hrun]
  have h2 := rep_new (t := nx) (B := .rows (cellsOf (ev A x)).length [cellsOf (ev A x)]) (o := .cells (a.eval x).cells t) hs hf h1
  obtain ⟨hl, hh⟩ := h2.cells hc
  obtain ⟨k1, k2, k3⟩ := srel_new hs hf (brep_one pushW_new hl hh)
  exact ⟨_, k1, rep_ptr0 (upd_same _ _ _), k2, k3⟩

theorem run_zeroValue {t : TypeId} {z : Value} (h : (P.info? t).bind (·.zero) = some z) (w : World) : (zeroValue t).run P w = .ok z w := by
  simp only [Option.bind_eq_some_iff] at h
  obtain ⟨i, hi, hz⟩ := h
  simp only [zeroValue]
  rw [Sem.run_bind, run_typeInfo hi]
  simp [Result.andThen, hz]

theorem ok_alloc {o : Oper} {A : Nat → PV} {t : TypeId} {nx : Nat} {cs : List PV} (ho : o.op = .alloc t) (hz : tzero P t = some cs) :
    OpOK Γ P o A ⟨.op cs.length nx 0 0, [(nx, .fresh)], [(nx, .live (.rows cs.length [cs]))]⟩ := by
  intro F μ σ a w hs ht hrd
  have hf : σ nx = .fresh := hrd (nx, .fresh) (List.mem_cons_self ..)
  simp only [tzero, Option.map_eq_some_iff] at hz
  obtain ⟨z, hz, rfl⟩ := hz
  have hrun : (execOp a.eval o).run P w = .ok (.value (.pointer (some ⟨w.heap.size, 0, none⟩))) (pushW w (.cells z.cells t)) := by
    simp only [execOp, ho, Instr.alloc]
    simp only [Sem.run_bind, run_zeroValue hz, Result.andThen, run_newVar, Sem.run_pure]
  rw [hrun]
  have hh : ∀ (w' : World) (O : Nat → Prop) (m : Nat → Mu) (i : Nat) q y, (z.cells.toList.map constCell)[i]? = some q → z.cells[i]? = some y → Rep w' O m q y := fun w' O m i q y h1 h2 => by
    rw [List.getElem?_map] at h1
    have h3 : z.cells.toList[i]? = some y := by simpa using h2
    rw [h3] at h1
    simp at h1
    subst h1
    exact .pure (constCell_rep w' O y)
  obtain ⟨k1, k2, k3⟩ := srel_new (B := .rows (z.cells.toList.map constCell).length [z.cells.toList.map constCell]) (o := .cells z.cells t) hs hf (brep_one pushW_new (by simp) (hh _ _ _))
  exact ⟨_, k1, rep_ptr0 (upd_same _ _ _), k2, k3⟩

/-- A row with some cells turned. -/
def putRow (row : List PV) (off : Nat) (cs : List PV) : List PV := row.take off ++ cs ++ row.drop (off + cs.length)

theorem putRow_length {row cs : List PV} {off : Nat} (h : off + cs.length ≤ row.length) : (putRow row off cs).length = row.length := by
  simp [putRow]; omega
theorem putRow_get {row cs : List PV} {off : Nat} (h : off + cs.length ≤ row.length) (j : Nat) :
    (putRow row off cs)[j]? = if off ≤ j ∧ j < off + cs.length then cs[j - off]? else row[j]? := by
  unfold putRow
  rw [List.append_assoc, List.getElem?_append]
  by_cases h1 : j < off
  · rw [if_pos (by simp; omega), if_neg (by omega), List.getElem?_take, if_pos h1]
  · rw [if_neg (by simp; omega), List.getElem?_append]
    simp only [List.length_take, show min off row.length = off from by omega]
    by_cases h2 : j < off + cs.length
    · rw [if_pos (by omega), if_pos (by omega)]
    · rw [if_neg (by omega), if_neg (by omega), List.getElem?_drop]
      congr 1; omega

theorem ok_store {o : Oper} {A : Nat → PV} {t : TypeId} {x y : Operand} {sz b i off n : Nat} {rs : List (List PV)} {row cs : List PV} (ho : o.op = .store t x y) (hx : ev A x = .op sz b i off)
    (hy : cellsOf (ev A y) = cs) (hlay : layable (ev A y) = true) (hcell : cs.all cellP = true) (hn : tsz P t = some n) (hnl : cs.length = n) (hr : rs[i]? = some row) (hl : off + n ≤ row.length) :
    OpOK Γ P o A ⟨.any, [(b, .live (.rows sz rs))], [(b, .live (.rows sz (rs.set i (putRow row off cs))))]⟩ := by
  intro F μ σ a w hs ht hrd
  have h1 := ev_of ht (x := x) (by rw [ho]; simp [Op.operands])
  have h2 := ev_of ht (x := y) (by rw [ho]; simp [Op.operands])
  rw [hx] at h1
  obtain ⟨hlc, hhc⟩ := h2.cells hlay
  rw [hy] at hlc hhc
  generalize hz : a.eval x = z at h1
  generalize hv : a.eval y = v at h2 hlc hhc
  have hσ : σ b = .live (.rows sz rs) := hrd (b, .live (.rows sz rs)) (List.mem_cons_self ..)
  have hB := hs.live b _ hσ
  cases h1 with
  | pure h => cases h
  | op _ _ _ _ bb hm =>
    rw [hm] at hB
    obtain ⟨c, ty, lo, hi, e1, e2, e3, e4, e5⟩ := hB
    have hi' : i < rs.length := (List.getElem?_eq_some_iff.1 hr).1
    have hrow : row.length = sz := e4 row (List.mem_of_getElem? hr)
    have hfit : i * sz + off + n ≤ c.size := by
      have : (i + 1) * sz ≤ rs.length * sz := Nat.mul_le_mul_right _ hi'
      rw [Nat.add_mul] at this
      omega
    have hvl : v.cells.toList.length = n := by simp [← hlc, hnl]
    have hst := run_storeCells (P := P) bb (i * sz + off) ty lo hi e2 v.cells.toList 0 c w e1 (by rw [hvl]; omega) (fun z hz' => by
      obtain ⟨k, hk⟩ := List.getElem?_of_mem hz'
      have hk' : v.cells[k]? = some z := by simpa using hk
      have hklt : k < cs.length := by rw [hlc]; exact (Array.getElem?_eq_some_iff.1 hk').1
      exact (hhc k cs[k] z (by simp [hklt]) hk').cellV (by simp only [List.all_eq_true] at hcell; exact hcell _ (List.getElem_mem _)))
    have hrun : (execOp a.eval o).run P w = .ok .skip (setBlk w bb (.cells (writeAt c (i * sz + off) v.cells.toList) ty (lo, hi))) := by
      simp only [execOp, ho, Instr.storeAt, hz, hv, Instr.sureAddr, storeVar]
      simp only [Sem.run_bind, Sem.run_pure, Result.andThen, run_sizeOf hn]
      rw [if_neg (by simp; rw [← hlc, hnl])]
      rw [Nat.add_zero] at hst
      rw [hst]
    rw [hrun]
    have hshape : (setBlk w bb (.cells (writeAt c (i * sz + off) v.cells.toList) ty (lo, hi))).shape? bb = w.shape? bb := by
      simp [World.shape?, setBlk_same (lt_of_heap e1), e1, writeAt_size]
    have hkeep : Keeps w (OwnF F μ σ) (setBlk w bb (.cells (writeAt c (i * sz + off) v.cells.toList) ty (lo, hi))) (OwnF F μ σ) :=
      ⟨by rw [setBlk_size]; exact Nat.le_refl _, fun k _ hk => ⟨setBlk_ne fun e => hk (by subst e; exact .inr ⟨b, _, hσ, hm⟩), hk⟩⟩
    have hsh2 : ∀ k, k < w.heap.size → (setBlk w bb (.cells (writeAt c (i * sz + off) v.cells.toList) ty (lo, hi))).shape? k = w.shape? k := fun k _ => by
      by_cases e : k = bb
      · subst e; exact hshape
      · simp only [World.shape?, setBlk_ne e]
    have lift : ∀ {p : PV} {z : Value}, Rep w (OwnF F μ σ) μ p z → Rep (setBlk w bb (.cells (writeAt c (i * sz + off) v.cells.toList) ty (lo, hi))) (OwnF F μ σ) μ p z := fun h => h.mono hkeep hsh2 (MuExt.refl _)
    have hB' : BRep (setBlk w bb (.cells (writeAt c (i * sz + off) v.cells.toList) ty (lo, hi))) (OwnF F μ σ) μ (.rows sz (rs.set i (putRow row off cs))) (.at bb) := by
      refine ⟨_, ty, lo, hi, setBlk_same (lt_of_heap e1), e2, by simpa [writeAt_size] using e3, fun r hr' => ?_, fun i' r j p g1 g2 => ?_⟩
      · rcases List.mem_or_eq_of_mem_set hr' with h | h
        · exact e4 r h
        · rw [h, putRow_length (by omega), hrow]
      · have hget := writeAt_get v.cells.toList c (i * sz + off) (i' * sz + j) (by rw [hvl]; exact hfit)
        rw [hvl] at hget
        rw [hget]
        by_cases e : i' = i
        · subst e
          have : r = putRow row off cs := by
            rw [List.getElem?_set_self hi'] at g1
            exact (Option.some.inj g1).symm
          subst this
          rw [putRow_get (by omega)] at g2
          by_cases hj : off ≤ j ∧ j < off + cs.length
          · rw [if_pos hj] at g2
            rw [if_pos (by omega), show i' * sz + j - (i' * sz + off) = j - off from by omega]
            have hlt : j - off < v.cells.size := by rw [← hlc]; omega
            exact ⟨v.cells[j - off], by simp [hlt], lift (hhc (j - off) p _ g2 (by simp [hlt]))⟩
          · rw [if_neg hj] at g2
            rw [if_neg (by omega)]
            obtain ⟨z', hz1, hz2⟩ := e5 i' row j p hr g2
            exact ⟨z', hz1, lift hz2⟩
        · rw [List.getElem?_set_ne (Ne.symm e)] at g1
          obtain ⟨z', hz1, hz2⟩ := e5 i' r j p g1 g2
          have hrl : r.length = sz := e4 r (List.mem_of_getElem? g1)
          have hjl : j < sz := by rw [← hrl]; exact (List.getElem?_eq_some_iff.1 g2).1
          rw [if_neg (by
            rintro ⟨q1, q2⟩
            rcases Nat.lt_or_ge i' i with hlt | hge
            · have : (i' + 1) * sz ≤ i * sz := Nat.mul_le_mul_right _ hlt
              rw [Nat.add_mul] at this; omega
            · have : (i + 1) * sz ≤ i' * sz := Nat.mul_le_mul_right _ (by omega)
              rw [Nat.add_mul] at this; omega)]
          exact ⟨z', hz1, lift hz2⟩
    obtain ⟨k1, k2⟩ := srel_set hs hσ hm hshape hB'
    exact ⟨μ, k1, .any _, k2, MuExt.refl _⟩

end Go.Am
/- Indexes, lengths, literals of structs and slices, slicing. -/
namespace Go.Am
variable {Γ : Nat → Option Obj} {P : Program}

mutual
/-- It leads to no block of the call's own. -/
def isP : PV → Bool
  | .v _ => true
  | .sl _ _ => true
  | .ip _ => true
  | .agg cs => isPL cs
  | .tup cs => isPL cs
  | .fn _ first caps => isPL first && isPL caps
  | .ifc _ x => isP x
  | .op _ _ _ _ => false
  | .os _ _ _ _ => false
  | .oa _ _ _ _ _ => false
  | .om _ => false
  | .any => false
def isPL : List PV → Bool
  | [] => true
  | x :: xs => isP x && isPL xs
end
theorem isPL_eq (l : List PV) : isPL l = l.all isP := by
  induction l with
  | nil => rfl
  | cons x xs ih => simp [isPL, ih]

theorem Rep.isP {w : World} {O : Nat → Prop} {μ : Nat → Mu} {p : PV} {y : Value} (h : Rep w O μ p y) (hp : isP p = true) : PRep w O p y := by
  induction h with
  | pure h => exact h
  | agg cs ys hl _ ih =>
    simp only [Am.isP, isPL_eq, List.all_eq_true] at hp
    exact .agg cs ys hl fun i p y h1 h2 => ih i p y h1 h2 (hp p (List.mem_of_getElem? h1))
  | tup cs ys hl _ ih =>
    simp only [Am.isP, isPL_eq, List.all_eq_true] at hp
    exact .tup cs ys hl fun i p y h1 h2 => ih i p y h1 h2 (hp p (List.mem_of_getElem? h1))
  | fn f first caps xs ys hl hl' _ _ ih ih' =>
    simp only [Am.isP, isPL_eq, Bool.and_eq_true, List.all_eq_true] at hp
    exact .fn f first caps xs ys hl hl' (fun i p y h1 h2 => ih i p y h1 h2 (hp.1 p (List.mem_of_getElem? h1))) (fun i p y h1 h2 => ih' i p y h1 h2 (hp.2 p (List.mem_of_getElem? h1)))
  | ifc ty p y _ ih => exact .ifc ty p y (ih (by simpa [Am.isP] using hp))
  | _ => simp [Am.isP] at hp

theorem sel_spec {t : TypeId} {s : Nat} (h : sel P t = some s) : ∃ e, P.underlying t = some (.slice e) ∧ tsz P e = some s := by
  unfold sel at h
  split at h
  · rename_i e he; exact ⟨e, he, h⟩
  · cases h
theorem ael_spec {t : TypeId} {n s : Nat} (h : ael P t = some (n, s)) : ∃ e, P.underlying t = some (.array n e) ∧ tsz P e = some s := by
  unfold ael at h
  split at h
  · rename_i n' e he
    simp only [Option.map_eq_some_iff, Prod.mk.injEq] at h
    obtain ⟨s', h1, rfl, rfl⟩ := h
    exact ⟨e, he, h1⟩
  · cases h

theorem run_index_slice {t : TypeId} {s b o n cap : Nat} {k : IntKind} {i : Int} (h : sel P t = some s) (h0 : 0 ≤ i) (h1 : i < n) (w : World) :
    (Instr.indexAt t (.slice (some ⟨b, o, none⟩) n cap) (.int k i)).run P w = .ok (.pointer (some ⟨b, o + i.toNat * s, none⟩)) w := by
  obtain ⟨e, he, hs⟩ := sel_spec h
  simp only [Instr.indexAt, asIntOf, Sem.run_bind, Sem.run_pure, Result.andThen, run_underlying he]
  rw [if_pos ⟨h0, h1⟩]
  simp only [Sem.run_bind, run_sizeOf hs, Result.andThen, Sem.run_pure, addr_add]

theorem run_index_array {t : TypeId} {s b o n : Nat} {k : IntKind} {i : Int} (h : ael P t = some (n, s)) (h0 : 0 ≤ i) (h1 : i < n) (w : World) :
    (Instr.indexAt t (.pointer (some ⟨b, o, none⟩)) (.int k i)).run P w = .ok (.pointer (some ⟨b, o + i.toNat * s, none⟩)) w := by
  obtain ⟨e, he, hs⟩ := ael_spec h
  simp only [Instr.indexAt, asIntOf, Sem.run_bind, Sem.run_pure, Result.andThen, run_underlying he, Instr.sureAddr]
  rw [if_pos ⟨h0, h1⟩]
  simp only [Sem.run_bind, run_sizeOf hs, Result.andThen, Sem.run_pure, addr_add]

theorem ok_indexAddr_sl {o : Oper} {A : Nat → PV} {t : TypeId} {x ix : Operand} {s : Nat} {k : IntKind} {i : Int} {full : Bool} {rows : List (List PV)} (ho : o.op = .indexAddr t x ix)
    (hx : ev A x = .sl full rows) (hi : ev A ix = .v (.int k i)) (h : sel P t = some s) (h0 : 0 ≤ i) {row : List PV} (hget : rows[i.toNat]? = some row) (hrow : row.length = s) :
    OpOK Γ P o A ⟨.ip row, [], []⟩ :=
  .value fun F μ σ a w _ ht _ => by
    have e1 := ev_of ht (x := x) (by rw [ho]; simp [Op.operands])
    have e2 := ev_of_v ht (x := ix) (by rw [ho]; simp [Op.operands]) hi
    rw [hx] at e1
    generalize hz : a.eval x = z at e1
    have hlt : i.toNat < rows.length := (List.getElem?_eq_some_iff.1 hget).1
    have h1 : i < rows.length := by omega
    cases e1 with
    | pure h' => cases h' with
      | nil _ _ _ _ => simp at h1; omega
      | sl _ _ sz b off cap vs hsz hcap hlen hf hO hb hc hr =>
        have hs : sz = s := by rw [← hrow]; exact (hsz _ (List.mem_of_getElem? hget)).symm
        subst hs
        refine ⟨.pointer (some ⟨b, off + i.toNat * sz, none⟩), ?_, .pure (.ip _ b (off + i.toNat * sz) (vs i.toNat) hO hb (fun j p hj => ?_) (fun j p hj => hr _ _ j p hget hj))⟩
        · simp only [execOp, ho, hz, e2]
          rw [Sem.run_bind, run_index_slice h h0 h1]; rfl
        · rw [Nat.add_assoc]; exact hc _ _ j p hget hj

theorem ok_indexAddr_os {o : Oper} {A : Nat → PV} {t : TypeId} {x ix : Operand} {s b j n : Nat} {k : IntKind} {i : Int} (ho : o.op = .indexAddr t x ix)
    (hx : ev A x = .os s b j n) (hi : ev A ix = .v (.int k i)) (h : sel P t = some s) (h0 : 0 ≤ i) (h1 : i < n) :
    OpOK Γ P o A ⟨.op s b (j + i.toNat) 0, [], []⟩ :=
  .value fun F μ σ a w _ ht _ => by
    have e1 := ev_of ht (x := x) (by rw [ho]; simp [Op.operands])
    have e2 := ev_of_v ht (x := ix) (by rw [ho]; simp [Op.operands]) hi
    rw [hx] at e1
    generalize hz : a.eval x = z at e1
    cases e1 with
    | pure h' => cases h'
    | os _ _ _ _ bb cap hm hn hlen hs =>
      refine ⟨.pointer (some ⟨bb, j * s + i.toNat * s, none⟩), ?_, ?_⟩
      · simp only [execOp, ho, hz, e2]
        rw [Sem.run_bind, run_index_slice h h0 h1]; rfl
      · have := Rep.op (w := w) (O := OwnF F μ σ) s b (j + i.toNat) 0 bb hm
        rw [Nat.add_mul] at this
        simpa using this
    | ph _ _ _ hm => simp at h1; omega

theorem ok_indexAddr_oa {o : Oper} {A : Nat → PV} {t : TypeId} {x ix : Operand} {sz b j off n : Nat} {k : IntKind} {i : Int} (ho : o.op = .indexAddr t x ix)
    (hx : ev A x = .oa sz b j off n) (hi : ev A ix = .v (.int k i)) (h : sel P t = some 1) (h0 : 0 ≤ i) (h1 : i < n) :
    OpOK Γ P o A ⟨.op sz b j (off + i.toNat), [], []⟩ :=
  .value fun F μ σ a w _ ht _ => by
    have e1 := ev_of ht (x := x) (by rw [ho]; simp [Op.operands])
    have e2 := ev_of_v ht (x := ix) (by rw [ho]; simp [Op.operands]) hi
    rw [hx] at e1
    generalize hz : a.eval x = z at e1
    cases e1 with
    | pure h' => cases h'
    | oa _ _ _ _ _ bb cap hm hn hlen =>
      refine ⟨.pointer (some ⟨bb, j * sz + off + i.toNat * 1, none⟩), ?_, ?_⟩
      · simp only [execOp, ho, hz, e2]
        rw [Sem.run_bind, run_index_slice h h0 h1]; rfl
      · rw [Nat.mul_one, Nat.add_assoc]; exact .op sz b j (off + i.toNat) bb hm

theorem ok_indexAddr_op {o : Oper} {A : Nat → PV} {t : TypeId} {x ix : Operand} {sz b j off n s : Nat} {k : IntKind} {i : Int} (ho : o.op = .indexAddr t x ix)
    (hx : ev A x = .op sz b j off) (hi : ev A ix = .v (.int k i)) (h : ael P t = some (n, s)) (h0 : 0 ≤ i) (h1 : i < n) :
    OpOK Γ P o A ⟨.op sz b j (off + i.toNat * s), [], []⟩ :=
  .value fun F μ σ a w _ ht _ => by
    have e1 := ev_of ht (x := x) (by rw [ho]; simp [Op.operands])
    have e2 := ev_of_v ht (x := ix) (by rw [ho]; simp [Op.operands]) hi
    rw [hx] at e1
    generalize hz : a.eval x = z at e1
    cases e1 with
    | pure h' => cases h'
    | op _ _ _ _ bb hm =>
      refine ⟨.pointer (some ⟨bb, j * sz + off + i.toNat * s, none⟩), ?_, ?_⟩
      · simp only [execOp, ho, hz, e2]
        rw [Sem.run_bind, run_index_array h h0 h1]; rfl
      · rw [Nat.add_assoc]; exact .op sz b j _ bb hm

theorem ok_indexAddr_ip {o : Oper} {A : Nat → PV} {t : TypeId} {x ix : Operand} {n s : Nat} {k : IntKind} {i : Int} {cs : List PV} (ho : o.op = .indexAddr t x ix)
    (hx : ev A x = .ip cs) (hi : ev A ix = .v (.int k i)) (h : ael P t = some (n, s)) (h0 : 0 ≤ i) (h1 : i < n) :
    OpOK Γ P o A ⟨.ip (cs.drop (i.toNat * s)), [], []⟩ :=
  .value fun F μ σ a w _ ht _ => by
    have e1 := ev_of ht (x := x) (by rw [ho]; simp [Op.operands])
    have e2 := ev_of_v ht (x := ix) (by rw [ho]; simp [Op.operands]) hi
    rw [hx] at e1
    generalize hz : a.eval x = z at e1
    cases e1 with
    | pure h' => cases h' with
      | ip _ bb oo vs hO hb hc hr =>
        refine ⟨.pointer (some ⟨bb, oo + i.toNat * s, none⟩), ?_, .pure (.ip _ bb _ (fun j => vs (i.toNat * s + j)) hO hb (fun j p hj => ?_) (fun j p hj => ?_))⟩
        · simp only [execOp, ho, hz, e2]
          rw [Sem.run_bind, run_index_array h h0 h1]; rfl
        · rw [List.getElem?_drop] at hj
          rw [Nat.add_assoc]; exact hc _ p hj
        · rw [List.getElem?_drop] at hj; exact hr _ p hj

/-- A slice's length. -/
def lenP : PV → Option Nat
  | .sl _ rows => some rows.length
  | .os _ _ _ n => some n
  | .oa _ _ _ _ n => some n
  | _ => none

theorem lenP_rep {w : World} {O : Nat → Prop} {μ : Nat → Mu} {p : PV} {y : Value} {n : Nat} (h : Rep w O μ p y) (hn : lenP p = some n) : ∃ a cap, y = .slice a n cap := by
  cases p with
  | sl full rows =>
    simp [lenP] at hn
    subst hn
    cases h with
    | pure h => cases h with
      | nil _ a cap _ => exact ⟨a, cap, rfl⟩
      | sl _ _ _ b off cap _ _ _ _ _ _ _ _ _ => exact ⟨_, cap, rfl⟩
  | os sz t i m =>
    simp [lenP] at hn
    subst hn
    cases h with
    | pure h => cases h
    | os _ _ _ _ b cap _ _ _ _ => exact ⟨_, cap, rfl⟩
    | ph _ _ a _ => exact ⟨a, 0, rfl⟩
  | oa sz t i off m =>
    simp [lenP] at hn
    subst hn
    cases h with
    | pure h => cases h
    | oa _ _ _ _ _ b cap _ _ _ => exact ⟨_, cap, rfl⟩
  | _ => simp [lenP] at hn

theorem run_builtin {ρ : Operand → Value} {o : Oper} {b : Builtin} {args : Array Operand} {ts : Array TypeId} (ho : o.op = .call { callee := .builtin b, args := args, argTypes := ts }) (w : World) :
    (execOp ρ o).run P w = (builtin b ts o.type (args.map fun | .const _ => true | _ => false) (args.map ρ)).run P w := by
  simp only [execOp, ho, resolve, Sem.run_bind, Sem.run_pure, Result.andThen, invoke]
  rfl

theorem run_builtin' {ρ : Operand → Value} {o : Oper} {b : Builtin} {args : Array Operand} {ts : Array TypeId} (ho : o.op = .call { callee := .builtin b, args := args, argTypes := ts }) (w : World) :
    ∃ kc : Array Bool, (execOp ρ o).run P w = (builtin b ts o.type kc (args.map ρ)).run P w := ⟨_, run_builtin ho w⟩

theorem ok_len {o : Oper} {A : Nat → PV} {x : Operand} {ts : Array TypeId} {t : TypeId} {s n : Nat} (ho : o.op = .call { callee := .builtin .len, args := #[x], argTypes := ts }) (hts : ts[0]? = some t)
    (hs : sel P t = some s) (hn : lenP (ev A x) = some n) : OpOK Γ P o A ⟨.v (.int .i64 n), [], []⟩ :=
  .value fun F μ σ a w _ ht _ => by
    have e1 := ev_of ht (x := x) (by rw [ho]; simp [Op.operands, Call.operands])
    obtain ⟨e, he, _⟩ := sel_spec hs
    obtain ⟨b, cap, hy⟩ := lenP_rep e1 hn
    refine ⟨.int .i64 n, ?_, .pure (.v _)⟩
    rw [run_builtin ho]
    simp only [builtin, Builtin.len_, hts, List.map_toArray, List.map_cons, List.map_nil, hy]
    simp [Sem.run_bind, run_underlying he, Result.andThen, goInt]

theorem ok_nilCheck {o : Oper} {A : Nat → PV} {x : Operand} (ho : o.op = .nilCheck x) (hx : (∃ sz t i off, ev A x = .op sz t i off) ∨ (∃ cs, ev A x = .ip cs) ∨ (∃ f xs ys, ev A x = .fn (.func f) xs ys)) :
    OpOK Γ P o A ⟨ev A x, [], []⟩ :=
  .value fun F μ σ a w _ ht _ => by
    have e1 := ev_of ht (x := x) (by rw [ho]; simp [Op.operands])
    refine ⟨a.eval x, ?_, e1⟩
    rcases hx with ⟨sz, t, i, off, hx⟩ | ⟨cs, hx⟩ | ⟨f, xs, ys, hx⟩ <;> rw [hx] at e1 <;> generalize hz : a.eval x = z at e1
    · cases e1 with
      | pure h => cases h
      | op _ _ _ _ b hm => simp [execOp, ho, hz]
    · cases e1 with
      | pure h => cases h with
        | ip _ b off vs _ _ _ _ => simp [execOp, ho, hz]
    · cases e1 with
      | pure h => cases h with
        | fn _ _ _ _ _ _ _ _ _ => simp [execOp, ho, hz]
      | fn _ _ _ _ _ _ _ _ _ => simp [execOp, ho, hz]

/-! ### Literals -/
def fillA (pl : Nat → Option (Nat × Nat)) : List PV → List (Nat × PV) → Option (List PV)
  | cs, [] => some cs
  | cs, (i, p) :: r => match pl i with
    | some (off, n) => if (cellsOf p).length = n ∧ off + n ≤ cs.length ∧ layable p = true then fillA pl (putRow cs off (cellsOf p)) r else none
    | none => none

theorem foldl_set (v : Array Value) (off : Nat) (c : Array Value) (k : Nat) (h : off + v.size ≤ c.size) :
    (v.zipIdx.foldl (fun cs (x, j) => cs.setIfInBounds (off + j) x) c)[k]? = if off ≤ k ∧ k < off + v.size then v[k - off]? else c[k]? := by
  have key : ∀ (l : List Value) (n : Nat) (c : Array Value), off + n + l.length ≤ c.size →
      (l.zipIdx n).foldl (fun cs (x : Value × Nat) => cs.setIfInBounds (off + x.2) x.1) c = writeAt c (off + n) l := by
    intro l
    induction l with
    | nil => intro n c _; rfl
    | cons x l ih =>
      intro n c hc
      simp only [List.length_cons] at hc
      simp only [List.zipIdx_cons, List.foldl_cons, writeAt]
      rw [ih (n + 1) _ (by simp; omega)]
      rw [Nat.add_assoc]
  have e : v.zipIdx.foldl (fun cs (x, j) => cs.setIfInBounds (off + j) x) c = writeAt c (off + 0) v.toList := by
    rw [← Array.foldl_toList, Array.toList_zipIdx]
    exact key v.toList 0 c (by simpa using h)
  rw [e, Nat.add_zero, writeAt_get _ _ _ _ (by simpa using h)]
  simp

theorem foldl_set_size (v : Array Value) (off : Nat) (c : Array Value) : (v.zipIdx.foldl (fun cs (x, j) => cs.setIfInBounds (off + j) x) c).size = c.size := by
  rw [← Array.foldl_toList]
  generalize v.zipIdx.toList = l
  induction l generalizing c with
  | nil => rfl
  | cons x l ih => simp only [List.foldl_cons]; rw [ih]; simp

theorem fill_rep {w : World} {O : Nat → Prop} {μ : Nat → Mu} (pl : Nat → Option (Nat × Nat)) : ∀ (ps : List (Nat × PV)) (vs : List (Nat × Value)) (cs : List PV) (c : Array Value) (out : List PV),
    fillA pl cs ps = some out → ps.map (·.1) = vs.map (·.1) → (∀ (i : Nat) p v, ps[i]? = some p → vs[i]? = some v → Rep w O μ p.2 v.2) →
    cs.length = c.size → (∀ (i : Nat) p y, cs[i]? = some p → c[i]? = some y → Rep w O μ p y) →
    ∃ c', Instr.fill pl c vs = some c' ∧ out.length = c'.size ∧ ∀ (i : Nat) p y, out[i]? = some p → c'[i]? = some y → Rep w O μ p y := by
  intro ps
  induction ps with
  | nil =>
    intro vs cs c out h hm _ hl hh
    cases vs with
    | nil => simp [fillA] at h; subst h; exact ⟨c, rfl, hl, hh⟩
    | cons v vs => simp at hm
  | cons p ps ih =>
    intro vs cs c out h hm hr hl hh
    obtain ⟨i, p⟩ := p
    cases vs with
    | nil => simp at hm
    | cons v vs =>
      obtain ⟨i', v⟩ := v
      simp only [List.map_cons, List.cons.injEq] at hm
      obtain ⟨rfl, hm⟩ := hm
      simp only [fillA] at h
      split at h
      · rename_i off n hpl
        split at h
        · rename_i hc
          obtain ⟨h1, h2, h3⟩ := hc
          have hv : Rep w O μ p v := hr 0 (i, p) (i, v) rfl rfl
          obtain ⟨hvl, hvc⟩ := Rep.cells hv h3
          have hfit : off + v.cells.size ≤ c.size := by rw [← hvl, h1, ← hl]; exact h2
          obtain ⟨c', hf, hl', hh'⟩ := ih vs (putRow cs off (cellsOf p)) (v.cells.zipIdx.foldl (fun cs (x, j) => cs.setIfInBounds (off + j) x) c) out h hm
            (fun k q z g1 g2 => hr (k + 1) q z (by simpa using g1) (by simpa using g2)) (by rw [foldl_set_size, putRow_length (by omega), hl]) (fun k q y g1 g2 => by
              rw [putRow_get (by omega)] at g1
              rw [foldl_set _ _ _ _ hfit, ← hvl] at g2
              by_cases hk : off ≤ k ∧ k < off + (cellsOf p).length
              · rw [if_pos hk] at g1 g2; exact hvc _ q y g1 g2
              · rw [if_neg hk] at g1 g2; exact hh k q y g1 g2)
          refine ⟨c', ?_, hl', hh'⟩
          simp only [Instr.fill, hpl]
          rw [if_neg (by simp; omega)]
          exact hf
        · cases h
      · cases h

/-- Where a part of a struct or an array begins, and its cells. -/
def plc (P : Program) (t : TypeId) (i : Nat) : Option (Nat × Nat) :=
  match P.underlying t with
  | some (.struct fs) => match fs[i]? with
    | some fd => (tsz P fd.type).map fun n => (fd.offset, n)
    | none => none
  | some (.array _ e) => (tsz P e).map fun s => (i * s, s)
  | _ => none

/-- All fields of a struct have a size that is known. -/
def fieldsOK (P : Program) (t : TypeId) : Bool :=
  match P.underlying t with
  | some (.struct fs) => fs.toList.all fun (fd : Field) => (tsz P fd.type).isSome
  | some (.array _ e) => (tsz P e).isSome
  | _ => false

theorem run_places (fs : Array Field) (h : fs.toList.all (fun fd : Field => (tsz P fd.type).isSome) = true) (w : World) :
    ∃ ps : Array (Nat × Nat), (fs.mapM fun (f : Field) => do pure (f.offset, ← sizeOf f.type) : Sem (Array (Nat × Nat))).run P w = .ok ps w ∧
      ∀ i : Nat, ps[i]? = (match (fs[i]? : Option Field) with | some fd => (tsz P fd.type).map fun n => (fd.offset, n) | none => none) := by
  rw [Array.mapM_eq_mapM_toList]
  have key : ∀ l : List Field, l.all (fun fd : Field => (tsz P fd.type).isSome) = true →
      ∃ ps : List (Nat × Nat), (l.mapM fun (f : Field) => do pure (f.offset, ← sizeOf f.type) : Sem (List (Nat × Nat))).run P w = .ok ps w ∧
        ∀ i : Nat, ps[i]? = (match (l[i]? : Option Field) with | some fd => (tsz P fd.type).map fun n => (fd.offset, n) | none => none) := by
    intro l
    induction l with
    | nil => intro _; exact ⟨[], by simp, fun i => by simp⟩
    | cons f l ih =>
      intro hl
      simp only [List.all_cons, Bool.and_eq_true] at hl
      obtain ⟨n, hn⟩ := Option.isSome_iff_exists.1 hl.1
      obtain ⟨ps, h1, h2⟩ := ih hl.2
      refine ⟨(f.offset, n) :: ps, ?_, fun i => ?_⟩
      · simp only [List.mapM_cons, Sem.run_bind, run_sizeOf hn, Result.andThen, Sem.run_pure, h1]
      · cases i with
        | zero => simp [hn]
        | succ i => simpa using h2 i
  obtain ⟨ps, h1, h2⟩ := key fs.toList h
  refine ⟨ps.toArray, ?_, fun i => ?_⟩
  · rw [map_eq_pure_bind, Sem.run_bind, h1]; rfl
  · simpa using h2 i

theorem ok_build {o : Oper} {A : Nat → PV} {t : TypeId} {parts : Array (Nat × Operand)} {zs out : List PV} (ho : o.op = .build t parts) (hz : tzero P t = some zs) (hf : fieldsOK P t = true)
    (h : fillA (plc P t) zs (parts.toList.map fun p => (p.1, ev A p.2)) = some out) : OpOK Γ P o A ⟨.agg out, [], []⟩ :=
  .value fun F μ σ a w _ ht _ => by
    simp only [tzero, Option.map_eq_some_iff] at hz
    obtain ⟨z, hz, rfl⟩ := hz
    obtain ⟨c', g1, g2, g3⟩ := fill_rep (w := w) (O := OwnF F μ σ) (μ := μ) (plc P t) _ (parts.toList.map fun p => (p.1, a.eval p.2)) _ z.cells out h (by simp [Function.comp_def])
      (fun i p v h1 h2 => by
        simp only [List.getElem?_map] at h1 h2
        cases hq : parts.toList[i]? with
        | none => simp [hq] at h1
        | some q =>
          simp only [hq, Option.map_some, Option.some.injEq] at h1 h2
          subst h1 h2
          exact ev_of ht (by rw [ho]; simp [Op.operands]; exact ⟨q.1, by simpa using List.mem_of_getElem? hq⟩)) (by simp) (fun i p y h1 h2 => by
        rw [List.getElem?_map] at h1
        have h3 : z.cells.toList[i]? = some y := by simpa using h2
        rw [h3] at h1
        simp at h1
        subst h1
        exact .pure (constCell_rep _ _ y))
    refine ⟨.agg c', ?_, .agg _ _ g2 g3⟩
    simp only [execOp, ho, Instr.build, Sem.run_bind, run_zeroValue hz, Result.andThen]
    unfold fieldsOK at hf
    have hmap : (parts.map fun x => (x.1, a.eval x.2)).toList = parts.toList.map fun p => (p.1, a.eval p.2) := by simp
    split at hf
    · rename_i fs hu
      obtain ⟨ps, p1, p2⟩ := run_places fs hf w
      have hfun : (fun x => ps[x]?) = plc P t := by
        funext i; rw [p2 i]; unfold plc; rw [hu]
      simp only [run_underlying hu]
      rw [Sem.run_bind, p1]
      simp only [Result.andThen, hmap, hfun, g1, Sem.run_pure]
    · rename_i n e hu
      obtain ⟨s, hs⟩ := Option.isSome_iff_exists.1 hf
      have hfun : (fun i => some (i * s, s)) = plc P t := by
        funext i; unfold plc; rw [hu]; simp [hs]
      simp only [run_underlying hu]
      rw [Sem.run_bind, run_sizeOf hs]
      simp only [Result.andThen, hmap, hfun, g1, Sem.run_pure]
    · cases hf

end Go.Am
/- Slices: literals, slicing, make, append, copy. -/
namespace Go.Am
variable {Γ : Nat → Option Obj} {P : Program}

/-! ### A block that nobody owns -/
theorem srel_push {F : Nat → Prop} {μ : Nat → Mu} {σ : Nat → Slot} {w : World} (h : SRel Γ F w μ σ) (o : Obj) : SRel Γ F (pushW w o) μ σ ∧ Ext w (Own μ σ) (pushW w o) (Own μ σ) := by
  have hsz : w.heap.size ≤ (pushW w o).heap.size := by simp [pushW]
  have hshape : ∀ c, c < w.heap.size → (pushW w o).shape? c = w.shape? c := fun c hc => by simp only [World.shape?, pushW_old hc]
  have hk : Keeps w (OwnF F μ σ) (pushW w o) (OwnF F μ σ) := ⟨hsz, fun c hc hO => ⟨pushW_old hc, hO⟩⟩
  exact ⟨⟨h.fresh, fun t B ht => brep_keep hk hshape (MuExt.refl _) (fun b hb => pushW_old (own_lt h ⟨t, B, ht, hb⟩)) (h.live t B ht), h.inj, h.notF, fun b hb => Nat.lt_of_lt_of_le (h.ffin b hb) hsz,
    fun b o' hb => ⟨(pushW_old (lt_of_heap (h.gam b o' hb).1)).trans (h.gam b o' hb).1, (h.gam b o' hb).2⟩⟩, ⟨hsz, fun c hc hO => ⟨pushW_old hc, hO⟩, hshape, rfl, rfl⟩⟩

theorem rep_push {F : Nat → Prop} {μ : Nat → Mu} {σ : Nat → Slot} {w : World} {o : Obj} {p : PV} {y : Value} (hr : Rep w (OwnF F μ σ) μ p y) : Rep (pushW w o) (OwnF F μ σ) μ p y :=
  hr.mono ⟨by simp [pushW], fun c hc hO => ⟨pushW_old hc, hO⟩⟩ (fun c hc => by simp only [World.shape?, pushW_old hc]) (MuExt.refl _)

/-! ### Rows out of cells -/
def zfill (zs : List PV) : Nat → List PV
  | 0 => []
  | n + 1 => zs ++ zfill zs n

def chunk (sz : Nat) : Nat → List PV → List (List PV)
  | 0, _ => []
  | n + 1, l => l.take sz :: chunk sz n (l.drop sz)

theorem chunk_length (sz : Nat) : ∀ (n : Nat) (l : List PV), (chunk sz n l).length = n
  | 0, _ => rfl
  | n + 1, l => by simp [chunk, chunk_length sz n]

theorem chunk_get (sz : Nat) : ∀ (n : Nat) (l : List PV) (i : Nat) (r : List PV), (chunk sz n l)[i]? = some r → i < n ∧ r = (l.drop (i * sz)).take sz
  | 0, _, i, r, h => by simp [chunk] at h
  | n + 1, l, 0, r, h => by simp [chunk] at h; simp [h]
  | n + 1, l, i + 1, r, h => by
    have h1 := chunk_get sz n (l.drop sz) i r (by simpa [chunk] using h)
    refine ⟨by omega, ?_⟩
    rw [h1.2, List.drop_drop]
    congr 2
    rw [Nat.add_mul]; omega

theorem zfill_length (zs : List PV) (n : Nat) : (zfill zs n).length = n * zs.length := by
  induction n with
  | zero => simp [zfill]
  | succ n ih => simp [zfill, ih, Nat.add_mul]; omega

theorem zfill_get (zs : List PV) (n k : Nat) (h : k < n * zs.length) : (zfill zs n)[k]? = zs[k % zs.length]? := by
  induction n generalizing k with
  | zero => simp at h
  | succ n ih =>
    simp only [zfill]
    rw [List.getElem?_append]
    split
    · rename_i h1; rw [Nat.mod_eq_of_lt h1]
    · rename_i h1
      rw [Nat.add_mul] at h
      rw [ih _ (by omega)]
      congr 1
      exact (Nat.mod_eq_sub_mod (by omega)).symm

/-- The cells of zero values. -/
theorem zero_cells {z : Array Value} {n : Nat} (i : Nat) (p : PV) (y : Value) {w : World} {O : Nat → Prop} {μ : Nat → Mu}
    (h1 : (zfill (z.toList.map constCell) n)[i]? = some p) (h2 : ((Array.range (n * z.size)).map fun k => z[k % z.size]!)[i]? = some y) : Rep w O μ p y := by
  have hi : i < n * z.size := by
    have := (Array.getElem?_eq_some_iff.1 h2).1
    simpa using this
  rw [zfill_get _ _ _ (by simpa using hi)] at h1
  simp only [List.length_map, Array.length_toList, List.getElem?_map, Array.getElem?_toList] at h1
  have hpos : 0 < z.size := by
    rcases Nat.eq_zero_or_pos z.size with h | h
    · rw [h] at hi; simp at hi
    · exact h
  have hm : i % z.size < z.size := Nat.mod_lt _ hpos
  simp [hi, hm] at h1 h2
  subst h1 h2
  exact .pure (constCell_rep _ _ _)

/-- A literal of a slice: what its cells come to. -/
theorem run_buildSlice {o : Oper} {A : Nat → PV} {a : Act} {t e : TypeId} {len sz : Nat} {parts : Array (Nat × Operand)} {zs out : List PV} {w : World} {O : Nat → Prop} {μ : Nat → Mu}
    (ho : o.op = .buildSlice t len parts) (ht : ∀ t, Operand.tmp t ∈ o.op.operands.toList → Rep w O μ (A t) (a.tmps.getD t undef)) (hu : P.underlying t = some (.slice e)) (hs : tsz P e = some sz)
    (hz : tzero P e = some zs) (hzl : zs.length = sz) (hb : len * sz ≤ 16777216)
    (h : fillA (fun i => some (i * sz, sz)) (zfill zs len) (parts.toList.map fun p => (p.1, ev A p.2)) = some out) :
    ∃ c, (execOp a.eval o).run P w = .ok (.value (.slice (some ⟨w.heap.size, 0, none⟩) len len)) (pushW w (.cells c e)) ∧ out.length = c.size ∧ c.size = len * sz ∧
      ∀ (i : Nat) p y, out[i]? = some p → c[i]? = some y → Rep w O μ p y := by
  simp only [tzero, Option.map_eq_some_iff] at hz
  obtain ⟨z, hz, rfl⟩ := hz
  simp only [List.length_map, Array.length_toList] at hzl
  subst hzl
  let c0 : Array Value := (Array.range (len * z.cells.size)).map fun k => (if len * z.cells.size = 0 then #[] else z.cells)[k % (if len * z.cells.size = 0 then #[] else z.cells).size]!
  have hc0 : c0 = (Array.range (len * z.cells.size)).map fun k => z.cells[k % z.cells.size]! := by
    by_cases h0 : len * z.cells.size = 0
    · simp [c0, h0]
    · simp only [c0, h0, if_false]
  obtain ⟨c', g1, g2, g3⟩ := fill_rep (w := w) (O := O) (μ := μ) (fun i => some (i * z.cells.size, z.cells.size)) _ (parts.toList.map fun p => (p.1, a.eval p.2)) _ c0 out h (by simp [Function.comp_def])
    (fun i p v h1 h2 => by
      simp only [List.getElem?_map] at h1 h2
      cases hq : parts.toList[i]? with
      | none => simp [hq] at h1
      | some q =>
        simp only [hq, Option.map_some, Option.some.injEq] at h1 h2
        subst h1 h2
        exact ev_of ht (by rw [ho]; simp [Op.operands]; exact ⟨q.1, by simpa using List.mem_of_getElem? hq⟩)) (by rw [hc0]; simp [zfill_length]) (fun i p y h1 h2 => by rw [hc0] at h2; exact zero_cells i p y h1 h2)
  have hsz : ∀ (ps : List (Nat × Value)) (c c' : Array Value), Instr.fill (fun i => some (i * z.cells.size, z.cells.size)) c ps = some c' → c'.size = c.size := by
    intro ps
    induction ps with
    | nil => intro c c' h; simp [Instr.fill] at h; rw [h]
    | cons p ps ih =>
      intro c c' h
      obtain ⟨i, v⟩ := p
      simp only [Instr.fill] at h
      split at h
      · cases h
      · rw [ih _ _ h, foldl_set_size]
  have hmap : (parts.map fun x => (x.1, a.eval x.2)).toList = parts.toList.map fun p => (p.1, a.eval p.2) := by simp
  refine ⟨c', ?_, g2, by rw [hsz _ _ _ g1, hc0]; simp, g3⟩
  simp only [execOp, ho, Instr.buildSlice, Sem.run_bind, run_underlying hu, Result.andThen, run_sizeOf hs]
  rw [if_neg (by omega)]
  by_cases h0 : len * z.cells.size = 0
  · simp only [h0, if_true, Sem.run_bind, Sem.run_pure, Result.andThen, hmap]
    have e : c0 = #[] := by rw [hc0, h0]; simp
    rw [e] at g1
    have e2 : ∀ f : Nat → Value, (Array.range 0).map f = #[] := fun f => by simp
    rw [e2, g1]
    rfl
  · have e : ((Array.range (len * z.cells.size)).map fun k => z.cells[k % z.cells.size]!) = c0 := hc0.symm
    simp only [h0, if_false, Sem.run_bind, run_zeroValue hz, Sem.run_pure, Result.andThen, hmap]
    rw [e, g1]
    rfl

theorem ok_buildSlice {o : Oper} {A : Nat → PV} {t e : TypeId} {len sz : Nat} {parts : Array (Nat × Operand)} {zs out : List PV} (ho : o.op = .buildSlice t len parts)
    (hu : P.underlying t = some (.slice e)) (hs : tsz P e = some sz) (hz : tzero P e = some zs) (hzl : zs.length = sz) (hb : len * sz ≤ 16777216)
    (h : fillA (fun i => some (i * sz, sz)) (zfill zs len) (parts.toList.map fun p => (p.1, ev A p.2)) = some out) (hp : isPL out = true) (hl : len ≤ 140737488355328) :
    OpOK Γ P o A ⟨.sl true (chunk sz len out), [], []⟩ := by
  intro F μ σ a w hsr ht _
  obtain ⟨c, hrun, h1, h2, h3⟩ := run_buildSlice ho ht hu hs hz hzl hb h
  rw [hrun]
  obtain ⟨k1, k2⟩ := srel_push hsr (.cells c e)
  refine ⟨μ, k1, .pure ?_, k2, MuExt.refl _⟩
  rw [isPL_eq, List.all_eq_true] at hp
  have hO : ¬ OwnF F μ (wrAll σ []) w.heap.size := fun h' => Nat.lt_irrefl _ (ownF_lt hsr h')
  have := PRep.sl (w := pushW w (.cells c e)) (O := OwnF F μ σ) true (chunk sz len out) sz w.heap.size 0 len (fun i j => c.getD (i * sz + j) undef)
    (fun r hr => by
      obtain ⟨i, hi⟩ := List.getElem?_of_mem hr
      obtain ⟨g1, g2⟩ := chunk_get sz len out i r hi
      rw [g2, List.length_take, List.length_drop, h1, h2]
      have : (i + 1) * sz ≤ len * sz := Nat.mul_le_mul_right _ g1
      rw [Nat.add_mul] at this
      omega) (by rw [chunk_length]; exact Nat.le_refl _) (by rw [chunk_length]; exact hl) (fun _ => by rw [chunk_length]) hO (by simp [pushW])
    (fun i r j p g1 g2 => by
      obtain ⟨q1, q2⟩ := chunk_get sz len out i r g1
      have hj : j < sz := by
        have := (List.getElem?_eq_some_iff.1 g2).1
        rw [q2, List.length_take] at this; omega
      have hlt : i * sz + j < c.size := by
        have : (i + 1) * sz ≤ len * sz := Nat.mul_le_mul_right _ q1
        rw [Nat.add_mul] at this
        omega
      simp only [World.cell?, pushW_new]
      simp [hlt])
    (fun i r j p g1 g2 => by
      obtain ⟨q1, q2⟩ := chunk_get sz len out i r g1
      have hj : j < sz := by
        have := (List.getElem?_eq_some_iff.1 g2).1
        rw [q2, List.length_take] at this; omega
      have hlt : i * sz + j < c.size := by
        have : (i + 1) * sz ≤ len * sz := Nat.mul_le_mul_right _ q1
        rw [Nat.add_mul] at this
        omega
      rw [q2, List.getElem?_take, if_pos hj, List.getElem?_drop] at g2
      have hr := rep_push (o := .cells c e) (h3 (i * sz + j) p (c.getD (i * sz + j) undef) g2 (by simp [hlt]))
      exact hr.isP (hp p (List.mem_of_getElem? g2)))
  rw [chunk_length] at this
  exact this

theorem rep_os0 {w : World} {O : Nat → Prop} {μ : Nat → Mu} {sz t n b cap : Nat} (h : μ t = .at b) (hn : n ≤ cap) (hl : n ≤ 140737488355328) (hs : ∃ ty m, w.shape? b = some (ty, m) ∧ cap * sz ≤ m) :
    Rep w O μ (.os sz t 0 n) (.slice (some ⟨b, 0, none⟩) n cap) := by
  have := Rep.os (w := w) (O := O) sz t 0 n b cap h hn hl (by simpa using hs)
  simpa using this

/-- The same, in a block of the call's own. -/
theorem ok_buildSlice_own {o : Oper} {A : Nat → PV} {t e : TypeId} {len sz nx : Nat} {parts : Array (Nat × Operand)} {zs out : List PV} (ho : o.op = .buildSlice t len parts)
    (hu : P.underlying t = some (.slice e)) (hs : tsz P e = some sz) (hz : tzero P e = some zs) (hzl : zs.length = sz) (hb : len * sz ≤ 16777216)
    (h : fillA (fun i => some (i * sz, sz)) (zfill zs len) (parts.toList.map fun p => (p.1, ev A p.2)) = some out) (hl : len ≤ 140737488355328) :
    OpOK Γ P o A ⟨.os sz nx 0 len, [(nx, .fresh)], [(nx, .live (.rows sz (chunk sz len out)))]⟩ := by
  intro F μ σ a w hsr ht hrd
  have hf : σ nx = .fresh := hrd (nx, .fresh) (List.mem_cons_self ..)
  obtain ⟨c, hrun, h1, h2, h3⟩ := run_buildSlice ho ht hu hs hz hzl hb h
  rw [hrun]
  have hB : BRep (pushW w (.cells c e)) (OwnF F (upd μ nx (.at w.heap.size)) (upd σ nx (.live (.rows sz (chunk sz len out))))) (upd μ nx (.at w.heap.size)) (.rows sz (chunk sz len out)) (.at w.heap.size) := by
    refine ⟨c, e, 0, 0, pushW_new, Nat.le_refl _, by rw [chunk_length, h2]; exact Nat.le_refl _, fun r hr => ?_, fun i r j p g1 g2 => ?_⟩
    · obtain ⟨i, hi⟩ := List.getElem?_of_mem hr
      obtain ⟨g1, g2⟩ := chunk_get sz len out i r hi
      rw [g2, List.length_take, List.length_drop, h1, h2]
      have : (i + 1) * sz ≤ len * sz := Nat.mul_le_mul_right _ g1
      rw [Nat.add_mul] at this
      omega
    · obtain ⟨q1, q2⟩ := chunk_get sz len out i r g1
      have hj : j < sz := by
        have := (List.getElem?_eq_some_iff.1 g2).1
        rw [q2, List.length_take] at this; omega
      have hlt : i * sz + j < c.size := by
        have : (i + 1) * sz ≤ len * sz := Nat.mul_le_mul_right _ q1
        rw [Nat.add_mul] at this
        omega
      rw [q2, List.getElem?_take, if_pos hj, List.getElem?_drop] at g2
      exact ⟨c[i * sz + j], by simp [hlt], rep_new hsr hf (h3 (i * sz + j) p _ g2 (by simp [hlt]))⟩
  obtain ⟨k1, k2, k3⟩ := srel_new hsr hf hB
  refine ⟨_, k1, ?_, k2, k3⟩
  exact rep_os0 (upd_same μ nx (.at w.heap.size)) (Nat.le_refl _) hl ⟨e, c.size, by simp only [World.shape?, pushW_new], by rw [h2]; exact Nat.le_refl _⟩

/-! ### Slicing -/
def optI (A : Nat → PV) : Option Operand → Option (Option Int)
  | none => some none
  | some x => match ev A x with
    | .v (.int _ n) => some (some n)
    | _ => none

theorem optI_spec {A : Nat → PV} {a : Act} {x : Option Operand} {r : Option Int} (h : optI A x = some r) (hx : ∀ y, x = some y → ∀ c, ev A y = .v c → a.eval y = c) :
    (x.map a.eval = none ∧ r = none) ∨ ∃ k n, x.map a.eval = some (.int k n) ∧ r = some n := by
  cases x with
  | none => simp [optI] at h; exact .inl ⟨rfl, h.symm⟩
  | some y =>
    simp only [optI] at h
    split at h
    · rename_i k n hy
      cases h
      exact .inr ⟨k, n, by simp [hx y rfl _ hy], rfl⟩
    · cases h

theorem run_sliceBound {k : IntKind} {i : Int} {y : Nat} {code : BoundsCode} (h0 : 0 ≤ i) (h1 : i ≤ y) (w : World) : (Instr.sliceBound (.int k i) y code).run P w = .ok i.toNat w := by
  simp only [Instr.sliceBound, asIntOf, Sem.run_bind, Sem.run_pure, Result.andThen]
  rw [if_pos ⟨h0, h1⟩]
  rfl

/-- Where a slice expression begins and ends. -/
def bnds (len : Nat) (lo hi mx : Option Int) (l h : Nat) : Prop :=
  (match lo with | none => l = 0 | some i => i = (l : Int)) ∧ (match hi with | none => h = len | some i => i = (h : Int)) ∧ (match mx with | none => True | some i => i = (h : Int) ∧ hi.isSome = true) ∧ l ≤ h ∧ h ≤ len

def mcap (cap h : Nat) : Option Int → Nat
  | none => cap
  | some _ => h

theorem run_sliceBounds {isS : Bool} {len cap l h : Nat} {lo hi mx : Option Int} (hb : bnds len lo hi mx l h) (hc : len ≤ cap) (klo khi kmx : IntKind) (w : World) :
    (Instr.sliceBounds isS len cap (lo.map (Value.int klo)) (hi.map (Value.int khi)) (mx.map (Value.int kmx))).run P w = .ok (l, h, mcap cap h mx) w := by
  obtain ⟨h1, h2, h3, h4, h5⟩ := hb
  have e1 : ∀ code, (Instr.sliceBound (.int kmx (h : Int)) cap code).run P w = .ok h w := fun code => by rw [run_sliceBound (by omega) (by omega)]; simp
  cases mx with
  | none =>
    cases hi with
    | none =>
      simp only at h2
      subst h2
      cases lo with
      | none => simp only at h1; subst h1; simp [mcap, Instr.sliceBounds]
      | some i => simp only at h1; subst h1; simp [mcap, Instr.sliceBounds, run_sliceBound (P := P) (w := w) (k := klo) (i := (l : Int)) (y := h) (by omega) (by omega)]
    | some i =>
      simp only at h2
      subst h2
      cases lo with
      | none => simp only at h1; subst h1; simp [mcap, Instr.sliceBounds, run_sliceBound (P := P) (w := w) (k := khi) (i := (h : Int)) (y := cap) (by omega) (by omega)]
      | some i => simp only at h1; subst h1; simp [mcap, Instr.sliceBounds, run_sliceBound (P := P) (w := w) (k := khi) (i := (h : Int)) (y := cap) (by omega) (by omega), run_sliceBound (P := P) (w := w) (k := klo) (i := (l : Int)) (y := h) (by omega) (by omega)]
  | some m =>
    obtain ⟨hm, hs⟩ := h3
    subst hm
    cases hi with
    | none => cases hs
    | some i =>
      simp only at h2
      subst h2
      cases lo with
      | none => simp only at h1; subst h1; simp [mcap, Instr.sliceBounds, e1, run_sliceBound (P := P) (w := w) (k := khi) (i := (h : Int)) (y := h) (by omega) (by omega)]
      | some i => simp only at h1; subst h1; simp [mcap, Instr.sliceBounds, e1, run_sliceBound (P := P) (w := w) (k := khi) (i := (h : Int)) (y := h) (by omega) (by omega), run_sliceBound (P := P) (w := w) (k := klo) (i := (l : Int)) (y := h) (by omega) (by omega)]

end Go.Am
/- Slicing, make, append. -/
namespace Go.Am
variable {Γ : Nat → Option Obj} {P : Program}

theorem not_array {t e : TypeId} (hu : P.underlying t = some (.slice e)) (x : Value) (lo hi mx : Option Value) (w : World) : (Instr.sliceAt t x lo hi mx).run P w = (Instr.slice t x lo hi mx).run P w := by
  simp only [Instr.sliceAt, Sem.run_bind, run_underlying hu, Result.andThen]

theorem run_slice {t e : TypeId} {s : Nat} (hu : P.underlying t = some (.slice e)) (hs : tsz P e = some s) {a : Option Addr} {len cap l h : Nat} {lo hi mx : Option Int} (hb : bnds len lo hi mx l h) (hc : len ≤ cap)
    (klo khi kmx : IntKind) (w : World) : (Instr.sliceAt t (.slice a len cap) (lo.map (Value.int klo)) (hi.map (Value.int khi)) (mx.map (Value.int kmx))).run P w =
      .ok (.slice (if mcap cap h mx = l then a else a.map (·.add (l * s))) (h - l) (mcap cap h mx - l)) w := by
  rw [not_array hu]
  simp only [Instr.slice, Sem.run_bind, run_underlying hu, Result.andThen, run_sliceBounds hb hc, run_sizeOf hs, Sem.run_pure]

theorem opts {A : Nat → PV} {a : Act} {o : Oper} {w : World} {O : Nat → Prop} {μ : Nat → Mu} (ht : ∀ t, Operand.tmp t ∈ o.op.operands.toList → Rep w O μ (A t) (a.tmps.getD t undef)) {x : Option Operand} {r : Option Int}
    (hx : ∀ y, x = some y → y ∈ o.op.operands.toList) (h : optI A x = some r) : ∃ k, x.map a.eval = r.map (Value.int k) := by
  cases x with
  | none => simp [optI] at h; subst h; exact ⟨.i64, rfl⟩
  | some y =>
    simp only [optI] at h
    split at h
    · rename_i k n hy
      cases h
      exact ⟨k, by simp [ev_of_v ht (hx y rfl) hy]⟩
    · cases h

theorem ok_slice_sl {o : Oper} {A : Nat → PV} {t : TypeId} {x : Operand} {lo hi mx : Option Operand} {s l h : Nat} {full : Bool} {rows : List (List PV)} {lo' hi' mx' : Option Int} (ho : o.op = .slice t x lo hi mx)
    (hx : ev A x = .sl full rows) (hs : sel P t = some s) (h1 : optI A lo = some lo') (h2 : optI A hi = some hi') (h3 : optI A mx = some mx') (hb : bnds rows.length lo' hi' mx' l h)
    (hrow : ∀ r ∈ rows.head?, r.length = s) :
    OpOK Γ P o A ⟨.sl (mx'.isSome || full && hi'.isNone) ((rows.drop l).take (h - l)), [], []⟩ :=
  .value fun F μ σ a w _ ht _ => by
    have e1 := ev_of ht (x := x) (by rw [ho]; simp [Op.operands])
    rw [hx] at e1
    obtain ⟨e, hu, hse⟩ := sel_spec hs
    obtain ⟨k1, q1⟩ := opts ht (x := lo) (fun y hy => by rw [ho, hy]; simp [Op.operands]) h1
    obtain ⟨k2, q2⟩ := opts ht (x := hi) (fun y hy => by rw [ho, hy]; simp [Op.operands]) h2
    obtain ⟨k3, q3⟩ := opts ht (x := mx) (fun y hy => by rw [ho, hy]; simp [Op.operands]) h3
    have hb' := hb
    obtain ⟨b1, b2, b3, b4, b5⟩ := hb'
    have hrun : ∀ (ad : Option Addr) (cap : Nat), a.eval x = .slice ad rows.length cap → rows.length ≤ cap →
        (execOp a.eval o).run P w = .ok (.value (.slice (if mcap cap h mx' = l then ad else ad.map (·.add (l * s))) (h - l) (mcap cap h mx' - l))) w := by
      intro ad cap he hc
      simp only [execOp, ho, he, q1, q2, q3]
      rw [Sem.run_bind, run_slice hu hse hb hc]; rfl
    have hcapf : ∀ cap, (full = true → cap = rows.length) → (mx'.isSome || full && hi'.isNone) = true → mcap cap h mx' - l = h - l := by
      intro cap hf hq
      cases mx' with
      | some m => rfl
      | none =>
        simp only [Option.isSome_none, Bool.false_or, Bool.and_eq_true, Option.isNone_iff_eq_none] at hq
        obtain ⟨hq1, hq2⟩ := hq
        subst hq2
        simp only at b2
        simp only [hf hq1, b2, mcap]
    generalize hz : a.eval x = z at e1
    cases e1 with
    | pure h' => cases h' with
      | nil _ ad cap hf =>
        refine ⟨_, hrun ad cap (by simpa using hz) (Nat.zero_le _), .pure ?_⟩
        have : h = 0 := by simpa using b5
        subst this
        have hl : l = 0 := by omega
        subst hl
        simp only [List.drop_nil, List.take_nil, Nat.sub_self]
        exact .nil _ _ _ fun hq => hcapf cap (by simpa using hf) hq
      | sl _ _ sz b off cap vs hsz hcap hlen hf hO hb0 hc hr =>
        refine ⟨_, hrun _ cap hz hcap, .pure ?_⟩
        by_cases hlh : h = l
        · subst hlh
          simp only [Nat.sub_self, List.take_zero]
          exact .nil _ _ _ fun hq => by have := hcapf cap hf hq; simpa using this
        · have hne : ¬ mcap cap h mx' = l := by cases mx' <;> simp only [mcap] <;> omega
          rw [if_neg hne]
          have hszs : sz = s := by
            cases rows with
            | nil => simp at b5; omega
            | cons r rs => rw [← hrow r (by simp)]; exact (hsz r (List.mem_cons_self ..)).symm
          subst hszs
          simp only [Option.map_some, addr_add]
          have hlen' : ((rows.drop l).take (h - l)).length = h - l := by simp; omega
          have get : ∀ i r, ((rows.drop l).take (h - l))[i]? = some r → rows[l + i]? = some r := fun i r hi => by
            rw [List.getElem?_take] at hi
            split at hi
            · rw [List.getElem?_drop] at hi; exact hi
            · cases hi
          have := PRep.sl (w := w) (O := OwnF F μ σ) (mx'.isSome || full && hi'.isNone) ((rows.drop l).take (h - l)) sz b (off + l * sz) (mcap cap h mx' - l) (fun i j => vs (l + i) j)
            (fun r hr => hsz r (List.mem_of_mem_drop (List.mem_of_mem_take hr))) (by rw [hlen']; cases mx' <;> simp only [mcap] <;> omega) (by rw [hlen']; omega) (fun hq => by rw [hlen']; exact hcapf cap hf hq) hO hb0
            (fun i r j p g1 g2 => by
              have := hc (l + i) r j p (get i r g1) g2
              rw [Nat.add_mul] at this
              rw [← this]; congr 2; omega) (fun i r j p g1 g2 => hr (l + i) r j p (get i r g1) g2)
          rw [hlen'] at this
          exact this

/-- An array of one-cell elements, from its begin. -/
theorem ok_slice_array {o : Oper} {A : Nat → PV} {t : TypeId} {x : Operand} {hi : Option Operand} {n h sz b j off : Nat} {hi' : Option Int} (ho : o.op = .slice t x none hi none)
    (hx : ev A x = .op sz b j off) (hs : ael P t = some (n, 1)) (h2 : optI A hi = some hi') (hb : bnds n none hi' none 0 h) (hn : n ≠ 0) (hn1 : n ≤ 1048576) :
    OpOK Γ P o A ⟨.oa sz b j off h, [], []⟩ :=
  .value fun F μ σ a w _ ht _ => by
    have e1 := ev_of ht (x := x) (by rw [ho]; simp [Op.operands])
    rw [hx] at e1
    obtain ⟨e, hu, hse⟩ := ael_spec hs
    obtain ⟨k2, q2⟩ := opts ht (x := hi) (fun y hy => by rw [ho, hy]; simp [Op.operands]) h2
    generalize hz : a.eval x = z at e1
    cases e1 with
    | pure h' => cases h'
    | op _ _ _ _ bb hm =>
      refine ⟨.slice (some ⟨bb, j * sz + off, none⟩) h n, ?_, .oa sz b j off h bb n hm hb.2.2.2.2 (by have := hb.2.2.2.2; omega)⟩
      simp only [execOp, ho, hz, q2, Option.map_none, Instr.sliceAt, Instr.sureAddr]
      have hb' := run_sliceBounds (P := P) (isS := false) (cap := n) hb (Nat.le_refl _) .i64 k2 .i64 w
      simp only [Option.map_none] at hb'
      simp only [Sem.run_bind, run_underlying hu, Result.andThen, Sem.run_pure, hb', run_sizeOf hse]
      rw [if_neg (by simpa [mcap] using hn)]
      simp [addr_add, mcap]

theorem ok_slice_os {o : Oper} {A : Nat → PV} {t : TypeId} {x : Operand} {hi mx : Option Operand} {h sz b j n : Nat} {hi' mx' : Option Int} (ho : o.op = .slice t x none hi mx)
    (hx : ev A x = .os sz b j n) (hs : sel P t = some sz) (h2 : optI A hi = some hi') (h3 : optI A mx = some mx') (hb : bnds n none hi' mx' 0 h) :
    OpOK Γ P o A ⟨.os sz b j h, [], []⟩ :=
  .value fun F μ σ a w _ ht _ => by
    have e1 := ev_of ht (x := x) (by rw [ho]; simp [Op.operands])
    rw [hx] at e1
    obtain ⟨e, hu, hse⟩ := sel_spec hs
    obtain ⟨k2, q2⟩ := opts ht (x := hi) (fun y hy => by rw [ho, hy]; simp [Op.operands]) h2
    obtain ⟨k3, q3⟩ := opts ht (x := mx) (fun y hy => by rw [ho, hy]; simp [Op.operands]) h3
    generalize hz : a.eval x = z at e1
    have hn5 := hb.2.2.2.2
    cases e1 with
    | pure h' => cases h'
    | os _ _ _ _ bb cap hm hn hlen hsh =>
      refine ⟨.slice (some ⟨bb, j * sz, none⟩) h (mcap cap h mx'), ?_, ?_⟩
      · simp only [execOp, ho, hz, q2, q3, Option.map_none]
        have := run_slice hu hse (a := some ⟨bb, j * sz, none⟩) hb hn .i64 k2 k3 w
        simp only [Option.map_none] at this
        rw [Sem.run_bind, this]
        simp only [Nat.zero_mul, Option.map_some, addr_add, Nat.add_zero, Nat.sub_zero, ite_self]
        rfl
      · obtain ⟨ty, m, hsh1, hsh2⟩ := hsh
        refine .os sz b j h bb _ hm (by cases mx' <;> simp only [mcap] <;> omega) (by omega) ⟨ty, m, hsh1, Nat.le_trans (Nat.mul_le_mul_right _ ?_) hsh2⟩
        cases mx' <;> simp only [mcap] <;> omega
    | ph _ _ ad hm =>
      have : h = 0 := by omega
      subst this
      refine ⟨.slice ad 0 0, ?_, .ph sz b ad hm⟩
      simp only [execOp, ho, hz, q2, q3, Option.map_none]
      have := run_slice hu hse (a := ad) (cap := 0) hb (Nat.le_refl _) .i64 k2 k3 w
      simp only [Option.map_none] at this
      rw [Sem.run_bind, this]
      cases mx' <;> simp [Result.andThen, mcap]

/-! ### make -/
def tby (P : Program) (t : TypeId) : Option Nat := (P.info? t).map (·.bytes)

theorem run_bytes {t : TypeId} {n : Nat} (h : tby P t = some n) (w : World) : ∃ i, (typeInfo t).run P w = .ok i w ∧ i.bytes = n := by
  simp only [tby, Option.map_eq_some_iff] at h
  obtain ⟨i, hi, rfl⟩ := h
  exact ⟨i, run_typeInfo hi w, rfl⟩

theorem wrap_i64 {n : Int} (h0 : -9223372036854775808 ≤ n) (h1 : n ≤ 9223372036854775807) : IntKind.i64.wrap n = n := by
  simp only [IntKind.wrap_i64]; omega

theorem run_askRoom (n : Nat) (w : World) : (askRoom n).run P w = .ok () w := by
  unfold askRoom
  split
  · rfl
  · rfl

theorem zfill_chunk (zs : List PV) (n : Nat) : chunk zs.length n (zfill zs n) = List.replicate n zs := by
  induction n with
  | zero => rfl
  | succ n ih => simp [chunk, zfill, List.replicate_succ, ih]

theorem ok_makeSlice {o : Oper} {A : Nat → PV} {t e : TypeId} {x y : Operand} {k k' : IntKind} {n : Int} {sz by' nx : Nat} {zs : List PV} (ho : o.op = .makeSlice t x y) (hx : ev A x = .v (.int k n)) (hy : ev A y = .v (.int k' n))
    (hu : P.underlying t = some (.slice e)) (hs : tsz P e = some sz) (hby : tby P e = some by') (hz : tzero P e = some zs) (hzl : zs.length = sz) (h0 : 0 ≤ n) (hb : by' ≤ 1024) (hn : n ≤ 137438953472) :
    OpOK Γ P o A ⟨.os sz nx 0 n.toNat, [(nx, .fresh)], [(nx, .live (.rows sz (List.replicate n.toNat zs)))]⟩ := by
  intro F μ σ a w hsr ht hrd
  have hf : σ nx = .fresh := hrd (nx, .fresh) (List.mem_cons_self ..)
  have e1 := ev_of_v ht (x := x) (by rw [ho]; simp [Op.operands]) hx
  have e2 := ev_of_v ht (x := y) (by rw [ho]; simp [Op.operands]) hy
  simp only [tzero, Option.map_eq_some_iff] at hz
  obtain ⟨z, hz, rfl⟩ := hz
  simp only [List.length_map, Array.length_toList] at hzl
  subst hzl
  obtain ⟨N, rfl⟩ : ∃ N : Nat, n = (N : Int) := ⟨n.toNat, by omega⟩
  obtain ⟨i, hi, hib⟩ := run_bytes hby w
  have hw : IntKind.i64.wrap (N : Int) = N := wrap_i64 (by omega) (by omega)
  have hprod : by' * N ≤ 281474976710656 := by
    have h1 : by' * N ≤ 1024 * N := Nat.mul_le_mul_right _ hb
    omega
  let c : Array Value := (Array.range (N * z.cells.size)).map fun k => z.cells[k % z.cells.size]!
  have hrun : (execOp a.eval o).run P w = .ok (.value (.slice (some ⟨w.heap.size, 0, none⟩) N N)) (pushW w (.cells c e)) := by
    simp only [execOp, ho, e1, e2, Instr.makeSlice]
    rw [Sem.run_bind]
    simp only [Sem.run_bind, run_underlying hu, Result.andThen, asInt, asIntOf, Sem.run_pure, hi, hw, hib]
    rw [if_neg (by
      have h1 : ((by' * N : Nat) : Int) ≤ 281474976710656 := Int.ofNat_le.2 hprod
      rw [Int.natCast_mul] at h1
      have h2 : ((2 : Int) ^ 48) = 281474976710656 := by decide
      simp only [Bool.or_eq_true, decide_eq_true_eq, h2]
      omega)]
    simp only [Sem.run_bind, run_askRoom, Result.andThen, run_sizeOf hs, Int.toNat_natCast]
    by_cases h0 : N * z.cells.size = 0
    · have e2 : ∀ f : Nat → Value, (Array.range 0).map f = #[] := fun f => by simp
      have : c = #[] := by simp only [c, h0]; exact e2 _
      rw [this]
      simp only [h0, if_true, Sem.run_pure, Result.andThen, e2]
      rfl
    · simp only [h0, if_false, Sem.run_bind, run_zeroValue hz, Result.andThen, Sem.run_pure]
      rfl
  rw [hrun]
  have hcs : c.size = N * z.cells.size := by simp [c]
  have hB : BRep (pushW w (.cells c e)) (OwnF F (upd μ nx (.at w.heap.size)) (upd σ nx (.live (.rows z.cells.size (List.replicate (N : Int).toNat (z.cells.toList.map constCell)))))) (upd μ nx (.at w.heap.size))
      (.rows z.cells.size (List.replicate (N : Int).toNat (z.cells.toList.map constCell))) (.at w.heap.size) := by
    simp only [Int.toNat_natCast]
    refine ⟨c, e, 0, 0, pushW_new, Nat.le_refl _, by simp [hcs], fun r hr => by rw [(List.mem_replicate.1 hr).2]; simp, fun i r j p g1 g2 => ?_⟩
    have hi : i < N := by have := (List.getElem?_eq_some_iff.1 g1).1; simpa using this
    have hr : r = z.cells.toList.map constCell := by rw [List.getElem?_replicate] at g1; simp [hi] at g1; exact g1.symm
    subst hr
    have hj : j < z.cells.size := by have := (List.getElem?_eq_some_iff.1 g2).1; simpa using this
    have hlt : i * z.cells.size + j < c.size := by
      have : (i + 1) * z.cells.size ≤ N * z.cells.size := Nat.mul_le_mul_right _ hi
      rw [Nat.add_mul] at this
      omega
    refine ⟨c[i * z.cells.size + j], by simp [hlt], ?_⟩
    refine zero_cells (z := z.cells) (n := N) (i * z.cells.size + j) p _ ?_ (by rw [Array.getElem?_eq_getElem (by simpa [c] using hlt)])
    rw [zfill_get _ _ _ (by simpa [hcs] using hlt)]
    simp only [List.length_map, Array.length_toList]
    rw [show (i * z.cells.size + j) % z.cells.size = j from by rw [Nat.mul_comm, Nat.mul_add_mod]; exact Nat.mod_eq_of_lt hj]
    exact g2
  obtain ⟨k1, k2, k3⟩ := srel_new hsr hf hB
  refine ⟨_, k1, ?_, k2, k3⟩
  have := rep_os0 (w := pushW w (.cells c e)) (O := OwnF F (upd μ nx (.at w.heap.size)) (upd σ nx (.live (.rows z.cells.size (List.replicate (N : Int).toNat (z.cells.toList.map constCell)))))) (sz := z.cells.size) (upd_same μ nx (.at w.heap.size)) (Nat.le_refl N) (by omega)
    ⟨e, c.size, by simp only [World.shape?, pushW_new], by rw [hcs]; exact Nat.le_refl _⟩
  simp only [Int.toNat_natCast] at this ⊢
  exact this

end Go.Am
/- append. -/
namespace Go.Am
variable {Γ : Nat → Option Obj} {P : Program}

/-- The elements of a slice. -/
def srcRows (σ : Nat → Slot) : PV → Option (List (List PV))
  | .sl _ rows => some rows
  | .os sz t i n => match σ t with
    | .live (.rows sz' rs) => if sz' = sz ∧ i + n ≤ rs.length then some ((rs.drop i).take n) else none
    | _ => none
  | .oa sz t i off n => match σ t with
    | .live (.rows sz' rs) => match rs[i]? with
      | some row => if sz' = sz ∧ off + n ≤ row.length then some (((row.drop off).take n).map fun p => [p]) else none
      | none => none
    | _ => none
  | _ => none

/-- The blocks that are read for it. -/
def srcIds : PV → List Nat
  | .os _ t _ _ => [t]
  | .oa _ t _ _ _ => [t]
  | _ => []

theorem src_spec {F : Nat → Prop} {μ : Nat → Mu} {σ : Nat → Slot} {w : World} (hs : SRel Γ F w μ σ) {p : PV} {y : Value} (h : Rep w (OwnF F μ σ) μ p y) {rows : List (List PV)} (hr : srcRows σ p = some rows) {size : Nat}
    (hsz : ∀ r ∈ rows, r.length = size) : ∃ a cap, ∃ cells : Array Value, y = .slice a rows.length cap ∧ rows.length ≤ 140737488355328 ∧ (Builtin.firstCells size rows.length y).run P w = .ok cells w ∧ cells.size = rows.length * size ∧
      ∀ (i : Nat) r (j : Nat) q, rows[i]? = some r → r[j]? = some q → ∃ z, cells[i * size + j]? = some z ∧ Rep w (OwnF F μ σ) μ q z := by
  have none0 : ∀ (a : Option Addr) (cap : Nat), (Builtin.firstCells size 0 (.slice a 0 cap)).run P w = .ok #[] w := fun a cap => by
    cases a with
    | none => simp [Builtin.firstCells]
    | some b => simp [Builtin.firstCells, loadCells, loadCellsFrom]
  cases p with
  | sl full rows' =>
    simp only [srcRows, Option.some.injEq] at hr
    subst hr
    cases h with
    | pure h => cases h with
      | nil _ a cap _ => exact ⟨a, cap, #[], rfl, Nat.zero_le _, none0 a cap, by simp, fun i r j q h1 => by simp at h1⟩
      | sl _ _ sz b off cap vs hsz' hcap hlen hf hO hb hc hr =>
        have heq : rows' = [] ∨ sz = size := by
          cases rows' with
          | nil => exact .inl rfl
          | cons r rs => exact .inr ((hsz' r (List.mem_cons_self ..)).symm.trans (hsz r (List.mem_cons_self ..)))
        rcases heq with rfl | rfl
        · exact ⟨_, cap, #[], rfl, Nat.zero_le _, none0 _ cap, by simp, fun i r j q h1 => by simp at h1⟩
        · let f : Nat → Value := fun k => vs (k / sz) (k % sz)
          have hcell : ∀ k, k < rows'.length * sz → w.cell? ((⟨b, off, none⟩ : Addr).add k) = some (f k) := fun k hk => by
            have hsz0 : 0 < sz := by rcases Nat.eq_zero_or_pos sz with h | h; (rw [h] at hk; simp at hk); exact h
            have hi : k / sz < rows'.length := by rw [Nat.div_lt_iff_lt_mul hsz0]; exact hk
            have hj : k % sz < sz := Nat.mod_lt _ hsz0
            have hrow : (rows'[k / sz]).length = sz := hsz' _ (List.getElem_mem _)
            rw [addr_add]
            have := hc (k / sz) rows'[k / sz] (k % sz) (rows'[k / sz][k % sz]'(by omega)) (by simp) (by simp)
            rw [show off + k = off + (k / sz * sz + k % sz) from by rw [Nat.div_add_mod' k sz]]
            exact this
          refine ⟨_, cap, ((List.range (rows'.length * sz)).map f).toArray, rfl, hlen, ?_, by simp, fun i r j q h1 h2 => ?_⟩
          · simp only [Builtin.firstCells]
            exact run_loadCells w _ _ f hcell
          · have hi : i < rows'.length := (List.getElem?_eq_some_iff.1 h1).1
            have hrl : r.length = sz := hsz r (List.mem_of_getElem? h1)
            have hj : j < sz := by rw [← hrl]; exact (List.getElem?_eq_some_iff.1 h2).1
            have hlt : i * sz + j < rows'.length * sz := by
              have : (i + 1) * sz ≤ rows'.length * sz := Nat.mul_le_mul_right _ hi
              rw [Nat.add_mul] at this; omega
            refine ⟨vs i j, ?_, .pure (hr i r j q h1 h2)⟩
            simp only [List.getElem?_toArray, List.getElem?_map, List.getElem?_range hlt, Option.map_some, f]
            congr 2
            · rw [Nat.mul_comm, Nat.mul_add_div (by omega), Nat.div_eq_of_lt hj, Nat.add_zero]
            · rw [Nat.mul_comm, Nat.mul_add_mod, Nat.mod_eq_of_lt hj]
  | os sz t i n =>
    simp only [srcRows] at hr
    split at hr
    · rename_i sz' rs hσ
      split at hr
      · rename_i hc
        obtain ⟨rfl, hin⟩ := hc
        simp only [Option.some.injEq] at hr
        subst hr
        have hrl : ((rs.drop i).take n).length = n := by simp; omega
        cases h with
        | pure h => cases h
        | os _ _ _ _ b cap hm hn hlen _ =>
          have hB := hs.live t _ hσ
          rw [hm] at hB
          obtain ⟨c, ty, lo, hi, e1, e2, e3, e4, e5⟩ := hB
          have get : ∀ k r, ((rs.drop i).take n)[k]? = some r → rs[i + k]? = some r := fun k r hk => by
            rw [List.getElem?_take] at hk
            split at hk
            · rw [List.getElem?_drop] at hk; exact hk
            · cases hk
          have heq : n = 0 ∨ sz' = size := by
            rcases Nat.eq_zero_or_pos n with h | h
            · exact .inl h
            · have h1 : ((rs.drop i).take n)[0]? = some rs[i] := by rw [List.getElem?_take, if_pos h, List.getElem?_drop]; simp
              exact .inr ((e4 _ (List.getElem_mem _)).symm.trans (hsz _ (List.mem_of_getElem? h1)))
          rcases heq with rfl | rfl
          · refine ⟨some ⟨b, i * sz', none⟩, cap, #[], by simp, by simp, ?_, by simp, fun i r j q h1 => by simp at h1⟩
            simp only [List.take_zero, List.length_nil]; exact none0 _ cap
          · have hfit : i * sz' + n * sz' ≤ c.size := by
              have : (i + n) * sz' ≤ rs.length * sz' := Nat.mul_le_mul_right _ hin
              rw [Nat.add_mul] at this; omega
            refine ⟨_, cap, c.extract (i * sz') (i * sz' + n * sz'), by rw [hrl], by rw [hrl]; exact hlen, ?_, ?_, fun k r j q h1 h2 => ?_⟩
            · rw [hrl]; simp only [Builtin.firstCells]; exact run_loadArr e1 hfit
            · rw [hrl]; simp; omega
            · have hk : k < n := by rw [← hrl]; exact (List.getElem?_eq_some_iff.1 h1).1
              have hrl' : r.length = sz' := hsz r (List.mem_of_getElem? h1)
              have hj : j < sz' := by rw [← hrl']; exact (List.getElem?_eq_some_iff.1 h2).1
              obtain ⟨z, hz1, hz2⟩ := e5 (i + k) r j q (get k r h1) h2
              refine ⟨z, ?_, hz2⟩
              have hlt : k * sz' + j < n * sz' := by
                have : (k + 1) * sz' ≤ n * sz' := Nat.mul_le_mul_right _ hk
                rw [Nat.add_mul] at this; omega
              rw [Array.getElem?_extract, if_pos (by omega), ← hz1, Nat.add_mul, Nat.add_assoc]
        | ph _ _ a hm =>
          refine ⟨a, 0, #[], by simp, by simp, ?_, by simp, fun i r j q h1 => by simp at h1⟩
          simp only [List.take_zero, List.length_nil]; exact none0 _ 0
      · cases hr
    · cases hr
  | oa sz t i off n =>
    simp only [srcRows] at hr
    split at hr
    · rename_i sz' rs hσ
      split at hr
      · rename_i row hrow
        split at hr
        · rename_i hc
          obtain ⟨rfl, hin⟩ := hc
          simp only [Option.some.injEq] at hr
          subst hr
          have hrl : (((row.drop off).take n).map fun p => [p]).length = n := by simp; omega
          cases h with
          | pure h => cases h
          | oa _ _ _ _ _ b cap hm hn hlen =>
            have hB := hs.live t _ hσ
            rw [hm] at hB
            obtain ⟨c, ty, lo, hi, e1, e2, e3, e4, e5⟩ := hB
            have hi' : i < rs.length := (List.getElem?_eq_some_iff.1 hrow).1
            have hrow' : row.length = sz' := e4 row (List.mem_of_getElem? hrow)
            have hfit : i * sz' + off + n ≤ c.size := by
              have : (i + 1) * sz' ≤ rs.length * sz' := Nat.mul_le_mul_right _ hi'
              rw [Nat.add_mul] at this; omega
            have get : ∀ k r, (((row.drop off).take n).map fun p => [p])[k]? = some r → ∃ p, row[off + k]? = some p ∧ r = [p] ∧ k < n := fun k r hk => by
              have hkn : k < n := by rw [← hrl]; exact (List.getElem?_eq_some_iff.1 hk).1
              rw [List.getElem?_map, List.getElem?_take, if_pos hkn, List.getElem?_drop] at hk
              cases hq : row[off + k]? with
              | none => simp [hq] at hk
              | some p => simp [hq] at hk; exact ⟨p, rfl, hk.symm, hkn⟩
            have heq : n = 0 ∨ size = 1 := by
              rcases Nat.eq_zero_or_pos n with h | h
              · exact .inl h
              · have h1 : (((row.drop off).take n).map fun p => [p])[0]? = some [row[off]'(by omega)] := by
                  rw [List.getElem?_map, List.getElem?_take, if_pos h, List.getElem?_drop]; simp [show off < row.length from by omega]
                exact .inr (hsz _ (List.mem_of_getElem? h1)).symm
            rcases heq with rfl | rfl
            · refine ⟨some ⟨b, i * sz' + off, none⟩, cap, #[], by simp, by simp, ?_, by simp, fun i r j q h1 => by simp at h1⟩
              simp only [List.take_zero, List.map_nil, List.length_nil]; exact none0 _ cap
            · refine ⟨some ⟨b, i * sz' + off, none⟩, cap, c.extract (i * sz' + off) (i * sz' + off + n), by rw [hrl], by rw [hrl]; exact hlen, ?_, ?_, fun k r j q h1 h2 => ?_⟩
              · rw [hrl]; simp only [Builtin.firstCells, Nat.mul_one]; exact run_loadArr e1 hfit
              · rw [hrl]; simp; omega
              · obtain ⟨p, hp, rfl, hkn⟩ := get k r h1
                have hj : j = 0 := by have := (List.getElem?_eq_some_iff.1 h2).1; simp at this; exact this
                subst hj
                simp at h2
                subst h2
                obtain ⟨z, hz1, hz2⟩ := e5 i row (off + k) p hrow hp
                exact ⟨z, by rw [Array.getElem?_extract, if_pos (by omega), ← hz1]; congr 1; omega, hz2⟩
        · cases hr
      · cases hr
    · cases hr
  | _ => simp [srcRows] at hr

end Go.Am
/- append, carried out. -/
namespace Go.Am
variable {Γ : Nat → Option Obj} {P : Program}

theorem keeps_sub {w : World} {O O' : Nat → Prop} (h : ∀ b, O' b → O b) : Keeps w O w O' := ⟨Nat.le_refl _, fun b _ hb => ⟨rfl, fun h' => hb (h b h')⟩⟩

/-- A block is let go. -/
theorem srel_kill {F : Nat → Prop} {μ : Nat → Mu} {σ : Nat → Slot} {w : World} (h : SRel Γ F w μ σ) {t : Nat} (ht : σ t ≠ .fresh) :
    SRel Γ F w μ (upd σ t .dead) ∧ Ext w (Own μ σ) w (Own μ (upd σ t .dead)) ∧ (∀ b, OwnF F μ (upd σ t .dead) b → OwnF F μ σ b) := by
  have hown : ∀ b, Own μ (upd σ t .dead) b → Own μ σ b := by
    rintro b ⟨u, B, hu, hm⟩
    by_cases e : u = t
    · subst e; rw [upd_same] at hu; cases hu
    · rw [upd_ne _ _ e] at hu; exact ⟨u, B, hu, hm⟩
  have hO : ∀ b, OwnF F μ (upd σ t .dead) b → OwnF F μ σ b := fun b hb => hb.imp id (hown b)
  have back : ∀ u B, upd σ t .dead u = .live B → σ u = .live B := fun u B hu => by
    by_cases e : u = t
    · subst e; rw [upd_same] at hu; cases hu
    · rwa [upd_ne _ _ e] at hu
  refine ⟨⟨fun u hu => ?_, fun u B hu => brep_keep (keeps_sub hO) (fun _ _ => rfl) (MuExt.refl _) (fun _ _ => rfl) (h.live u B (back u B hu)), fun u v B B' b hu hv => h.inj u v B B' b (back u B hu) (back v B' hv),
    fun u B b hu => h.notF u B b (back u B hu), h.ffin, fun b o hb => ⟨(h.gam b o hb).1, fun h' => (h.gam b o hb).2 (hO b h')⟩⟩, ⟨Nat.le_refl _, fun b _ hb => ⟨rfl, fun h' => hb (hown b h')⟩, fun _ _ => rfl, rfl, rfl⟩, hO⟩
  by_cases e : u = t
  · subst e; rw [upd_same] at hu; cases hu
  · rw [upd_ne _ _ e] at hu; exact h.fresh u hu

/-- A block under a new number. -/
theorem srel_rename {F : Nat → Prop} {μ : Nat → Mu} {σ : Nat → Slot} {w : World} (h : SRel Γ F w μ σ) {t nx : Nat} {B : Blk} (ht : σ t = .live B) (hf : σ nx = .fresh) :
    SRel Γ F w (upd μ nx (μ t)) (upd (upd σ t .dead) nx (.live B)) ∧ Ext w (Own μ σ) w (Own (upd μ nx (μ t)) (upd (upd σ t .dead) nx (.live B))) ∧ MuExt μ (upd μ nx (μ t)) ∧
      (∀ b, OwnF F (upd μ nx (μ t)) (upd (upd σ t .dead) nx (.live B)) b → OwnF F μ σ b) := by
  have hne : nx ≠ t := fun e => by rw [e, ht] at hf; cases hf
  have hno := h.fresh nx hf
  have hme : MuExt μ (upd μ nx (μ t)) := fun u hu => upd_ne _ _ fun e => hu (by rw [e]; exact hno)
  have back : ∀ u B', upd (upd σ t .dead) nx (.live B) u = .live B' → (u = nx ∧ B' = B) ∨ (u ≠ nx ∧ u ≠ t ∧ σ u = .live B') := fun u B' hu => by
    by_cases e : u = nx
    · subst e; rw [upd_same] at hu; cases hu; exact .inl ⟨rfl, rfl⟩
    · rw [upd_ne _ _ e] at hu
      by_cases e' : u = t
      · subst e'; rw [upd_same] at hu; cases hu
      · rw [upd_ne _ _ e'] at hu; exact .inr ⟨e, e', hu⟩
  have hown : ∀ b, Own (upd μ nx (μ t)) (upd (upd σ t .dead) nx (.live B)) b → Own μ σ b := by
    rintro b ⟨u, B', hu, hm⟩
    rcases back u B' hu with ⟨rfl, rfl⟩ | ⟨e1, e2, hu'⟩
    · rw [upd_same] at hm; exact ⟨t, _, ht, hm⟩
    · rw [upd_ne _ _ e1] at hm; exact ⟨u, B', hu', hm⟩
  have hO : ∀ b, OwnF F (upd μ nx (μ t)) (upd (upd σ t .dead) nx (.live B)) b → OwnF F μ σ b := fun b hb => hb.imp id (hown b)
  refine ⟨⟨fun u hu => ?_, fun u B' hu => ?_, ?_, ?_, h.ffin, fun b o hb => ⟨(h.gam b o hb).1, fun h' => (h.gam b o hb).2 (hO b h')⟩⟩, ⟨Nat.le_refl _, fun b _ hb => ⟨rfl, fun h' => hb (hown b h')⟩, fun _ _ => rfl, rfl, rfl⟩, hme, hO⟩
  · by_cases e : u = nx
    · subst e; rw [upd_same] at hu; cases hu
    · rw [upd_ne _ _ e] at hu ⊢
      by_cases e' : u = t
      · subst e'; rw [upd_same] at hu; cases hu
      · rw [upd_ne _ _ e'] at hu; exact h.fresh u hu
  · rcases back u B' hu with ⟨rfl, rfl⟩ | ⟨e1, e2, hu'⟩
    · rw [upd_same]
      exact brep_keep (keeps_sub hO) (fun _ _ => rfl) hme (fun _ _ => rfl) (h.live t _ ht)
    · rw [upd_ne _ _ e1]
      exact brep_keep (keeps_sub hO) (fun _ _ => rfl) hme (fun _ _ => rfl) (h.live u B' hu')
  · intro u v B1 B2 b hu hv h1 h2
    rcases back u B1 hu with ⟨rfl, rfl⟩ | ⟨e1, e2, hu'⟩ <;> rcases back v B2 hv with ⟨rfl, rfl⟩ | ⟨e3, e4, hv'⟩
    · rfl
    · rw [upd_same] at h1; rw [upd_ne _ _ e3] at h2; exact absurd (h.inj v t _ _ b hv' ht h2 h1) e4
    · rw [upd_same] at h2; rw [upd_ne _ _ e1] at h1; exact absurd (h.inj u t _ _ b hu' ht h1 h2) e2
    · rw [upd_ne _ _ e1] at h1; rw [upd_ne _ _ e3] at h2; exact h.inj u v _ _ b hu' hv' h1 h2
  · intro u B' b hu hm
    rcases back u B' hu with ⟨rfl, rfl⟩ | ⟨e1, e2, hu'⟩
    · rw [upd_same] at hm; exact h.notF t _ b ht hm
    · rw [upd_ne _ _ e1] at hm; exact h.notF u B' b hu' hm

/-- A block that isn't there yet. -/
theorem srel_ph {F : Nat → Prop} {μ : Nat → Mu} {σ : Nat → Slot} {w : World} (h : SRel Γ F w μ σ) {nx sz : Nat} (hf : σ nx = .fresh) :
    SRel Γ F w (upd μ nx .ph) (upd σ nx (.live (.rows sz []))) ∧ Ext w (Own μ σ) w (Own (upd μ nx .ph) (upd σ nx (.live (.rows sz [])))) ∧ MuExt μ (upd μ nx .ph) ∧
      (∀ b, OwnF F (upd μ nx .ph) (upd σ nx (.live (.rows sz []))) b → OwnF F μ σ b) := by
  have hno := h.fresh nx hf
  have hme : MuExt μ (upd μ nx .ph) := fun u hu => upd_ne _ _ fun e => hu (by rw [e]; exact hno)
  have hown : ∀ b, Own (upd μ nx .ph) (upd σ nx (.live (.rows sz []))) b → Own μ σ b := by
    rintro b ⟨u, B', hu, hm⟩
    by_cases e : u = nx
    · subst e; rw [upd_same] at hm; cases hm
    · rw [upd_ne _ _ e] at hu hm; exact ⟨u, B', hu, hm⟩
  have hO : ∀ b, OwnF F (upd μ nx .ph) (upd σ nx (.live (.rows sz []))) b → OwnF F μ σ b := fun b hb => hb.imp id (hown b)
  refine ⟨⟨fun u hu => ?_, fun u B' hu => ?_, ?_, ?_, h.ffin, fun b o hb => ⟨(h.gam b o hb).1, fun h' => (h.gam b o hb).2 (hO b h')⟩⟩, ⟨Nat.le_refl _, fun b _ hb => ⟨rfl, fun h' => hb (hown b h')⟩, fun _ _ => rfl, rfl, rfl⟩, hme, hO⟩
  · by_cases e : u = nx
    · subst e; rw [upd_same] at hu; cases hu
    · rw [upd_ne _ _ e] at hu ⊢; exact h.fresh u hu
  · by_cases e : u = nx
    · subst e; rw [upd_same] at hu ⊢; cases hu; rfl
    · rw [upd_ne _ _ e] at hu ⊢
      exact brep_keep (keeps_sub hO) (fun _ _ => rfl) hme (fun _ _ => rfl) (h.live u B' hu)
  · intro u v B1 B2 b hu hv h1 h2
    by_cases e : u = nx
    · subst e; rw [upd_same] at h1; cases h1
    · by_cases e' : v = nx
      · subst e'; rw [upd_same] at h2; cases h2
      · rw [upd_ne _ _ e] at hu h1; rw [upd_ne _ _ e'] at hv h2; exact h.inj u v _ _ b hu hv h1 h2
  · intro u B' b hu hm
    by_cases e : u = nx
    · subst e; rw [upd_same] at hm; cases hm
    · rw [upd_ne _ _ e] at hu hm; exact h.notF u B' b hu hm

/-! ### The model's append -/
theorem growBy_le (n : Nat) : ∀ (r c : Nat), Builtin.growBy n r c ≤ max c (n + (n + 768) / 4)
  | 0, c => by simp only [Builtin.growBy]; omega
  | r + 1, c => by
    simp only [Builtin.growBy]
    split
    · omega
    · have := growBy_le n r (c + (c + 768) / 4); omega

theorem nextcap_le {n c : Nat} (h : c < n) : Builtin.nextslicecap n c ≤ 2 * n + 1024 := by
  unfold Builtin.nextslicecap
  split
  · omega
  · split
    · omega
    · have := growBy_le n 4 c; omega

theorem run_typeInfo_bytes {e : TypeId} {i : TypeInfo} (h : P.info? e = some i) : tby P e = some i.bytes := by simp [tby, h]

/-- It fits: the new cells are laid behind. -/
theorem run_append_room {kc : Array Bool} {t t' e e' ty' : TypeId} {sz n n1 cap : Nat} {a : Option Addr} {x : Value} {ts : Array TypeId} {w w' : World} {cells : Array Value} (ht : ts[0]? = some t) (ht' : ts[1]? = some t')
    (hu : P.underlying t = some (.slice e)) (hu' : P.underlying t' = some (.slice e')) (hs : tsz P e = some sz) {ax : Option Addr} {capx : Nat} (hx : x = .slice ax n1 capx)
    (hsrc : (Builtin.firstCells sz n1 x).run P w = .ok cells w) (hc : n + n1 ≤ cap)
    (hst : ∀ b, a = some b → (storeCells (b.add (n * sz)) cells.toList).run P w = .ok () w') (hst' : a = none → w' = w) :
    (builtin .append ts ty' kc #[.slice a n cap, x]).run P w = .ok (.value (.slice a (n + n1) cap)) w' := by
  subst hx
  simp only [builtin, Builtin.append_, ht, ht', List.getElem?_toArray, List.getElem?_cons_zero, List.getElem?_cons_succ, Sem.run_bind, run_underlying hu, Result.andThen, run_sizeOf hs, run_underlying hu', Sem.run_pure, Builtin.lenOf]
  simp only [Bool.false_eq_true, if_false, Bool.not_false, if_true, Sem.run_pure, hc, Result.andThen, Sem.run_bind, hsrc]
  cases a with
  | none => rw [hst' rfl]; rfl
  | some b => simp only [Sem.run_bind, hst b rfl, Result.andThen, Sem.run_pure]

def drewW (w : World) : World := { w with drawn := w.drawn + 1 }

theorem mul_bound {x n b : Nat} (h : x ≤ 2 * n + 1024) (hb : b ≤ 1024) (hn : n ≤ 68719476736) : x * b ≤ 281474976710656 := by
  have h1 : x * b ≤ x * 1024 := Nat.mul_le_mul_left _ hb
  omega

/-- It does not: a new block. -/
theorem run_append_grow {kc : Array Bool} {t t' e e' ty' : TypeId} {sz n n1 cap by' : Nat} {a : Option Addr} {x z : Value} {ts : Array TypeId} {w : World} {cells old : Array Value} (ht : ts[0]? = some t) (ht' : ts[1]? = some t')
    (hu : P.underlying t = some (.slice e)) (hu' : P.underlying t' = some (.slice e')) (hs : tsz P e = some sz) (hby : tby P e = some by') (hz : (P.info? e).bind (·.zero) = some z) {ax : Option Addr} {capx : Nat} (hx : x = .slice ax n1 capx)
    (hsrc : (Builtin.firstCells sz n1 x).run P (drewW w) = .ok cells (drewW w)) (hold : (Builtin.firstCells sz n (.slice a n cap)).run P (drewW w) = .ok old (drewW w)) (hc : cap < n + n1)
    (hb0 : by' ≠ 0) (hb : by' ≤ 1024) (hn : n + n1 ≤ 68719476736) :
    ∃ newCap, n + n1 ≤ newCap ∧ (builtin .append ts ty' kc #[.slice a n cap, x]).run P w =
      .ok (.value (.slice (some ⟨w.heap.size, 0, none⟩) (n + n1) newCap)) (pushW (drewW w) (.cells (old ++ cells ++ Builtin.zeroCells z.cells (newCap - (n + n1))) e)) := by
  subst hx
  obtain ⟨i, hi, hib⟩ := run_bytes hby w
  have hmul : Builtin.nextslicecap (n + n1) cap * by' ≤ 281474976710656 := by
    exact mul_bound (nextcap_le hc) hb hn
  obtain ⟨newCap, hle, hch⟩ : ∃ newCap, n + n1 ≤ newCap ∧ (choose (.appendCap (n + n1) cap e)).run P w = .ok newCap (drewW w) :=
    ⟨(Question.appendCap (n + n1) cap e).cut (w.tape w.drawn (.appendCap (n + n1) cap e)), by simp only [Question.cut]; exact Nat.le_add_right _ _, by
      simp only [choose, Sem.run, Question.forced]
      rfl⟩
  refine ⟨newCap, hle, ?_⟩
  · skip
    obtain ⟨i', hi', hib'⟩ := run_bytes hby (drewW w)
    simp only [builtin, Builtin.append_, ht, ht', List.getElem?_toArray, List.getElem?_cons_zero, List.getElem?_cons_succ, Sem.run_bind, run_underlying hu, Result.andThen, run_sizeOf hs, run_underlying hu', Sem.run_pure, Builtin.lenOf]
    simp only [Bool.false_eq_true, if_false, Bool.not_false, if_true, Sem.run_pure, Result.andThen, Sem.run_bind]
    rw [if_neg (by omega)]
    simp only [Sem.run_bind, hi, Result.andThen, hib]
    rw [if_neg (by simp [hb0])]
    simp only [Sem.run_bind, hi, Result.andThen, hib]
    rw [if_neg (by
      have h2 : (2 : Nat) ^ 48 = 281474976710656 := by decide
      rw [h2]; omega)]
    simp only [Sem.run_bind]
    rw [hch]
    simp only [Result.andThen, hi', hib', run_askRoom, Sem.run_bind, hold, hsrc, run_zeroValue hz, Sem.run_pure]
    rfl

end Go.Am
/- append as a step. -/
namespace Go.Am
variable {Γ : Nat → Option Obj} {P : Program}

theorem drew_rep {w : World} {O : Nat → Prop} {μ : Nat → Mu} {p : PV} {y : Value} (h : Rep w O μ p y) : Rep (drewW w) O μ p y :=
  Rep.mono (w := w) (w' := drewW w) ⟨Nat.le_refl _, fun _ _ hO => ⟨rfl, hO⟩⟩ (fun _ _ => rfl) (MuExt.refl _) h
theorem drew_srel {F : Nat → Prop} {μ : Nat → Mu} {σ : Nat → Slot} {w : World} (h : SRel Γ F w μ σ) : SRel Γ F (drewW w) μ σ :=
  ⟨h.fresh, fun t B ht => brep_keep (w' := drewW w) (w := w) ⟨Nat.le_refl _, fun _ _ hO => ⟨rfl, hO⟩⟩ (fun _ _ => rfl) (MuExt.refl _) (fun _ _ => rfl) (h.live t B ht), h.inj, h.notF, h.ffin, h.gam⟩
theorem drew_ext {w w' : World} {O O' : Nat → Prop} (h : Ext (drewW w) O w' O') : Ext w O w' O' := ⟨h.size, h.keep, h.shape, h.os, h.out⟩

theorem pushW_shape {w : World} {c : Array Value} {e : TypeId} {fr : Nat × Nat} : (pushW w (.cells c e fr)).shape? w.heap.size = some (e, c.size) := by simp only [World.shape?, pushW_new]

/-- Cells of rows, laid one behind the other. -/
def CellsOf (w : World) (O : Nat → Prop) (μ : Nat → Mu) (sz : Nat) (rows : List (List PV)) (c : Array Value) : Prop :=
  c.size = rows.length * sz ∧ ∀ (i : Nat) r (j : Nat) q, rows[i]? = some r → r[j]? = some q → ∃ z, c[i * sz + j]? = some z ∧ Rep w O μ q z

theorem cells_brep {w : World} {O : Nat → Prop} {μ : Nat → Mu} {sz : Nat} {rows rows1 : List (List PV)} {old new rest : Array Value} {e b : Nat} (hh : w.heap[b]? = some (.cells (old ++ new ++ rest) e (0, 0)))
    (h0 : CellsOf w O μ sz rows old) (h1 : CellsOf w O μ sz rows1 new) (hs0 : ∀ r ∈ rows, r.length = sz) (hs1 : ∀ r ∈ rows1, r.length = sz) : BRep w O μ (.rows sz (rows ++ rows1)) (.at b) := by
  refine ⟨_, e, 0, 0, hh, Nat.le_refl _, by simp [h0.1, h1.1, Nat.add_mul], fun r hr => ?_, fun i r j p g1 g2 => ?_⟩
  · rcases List.mem_append.1 hr with h | h
    · exact hs0 r h
    · exact hs1 r h
  · rw [List.getElem?_append] at g1
    split at g1
    · rename_i hi
      obtain ⟨z, hz1, hz2⟩ := h0.2 i r j p g1 g2
      refine ⟨z, ?_, hz2⟩
      have := (Array.getElem?_eq_some_iff.1 hz1).1
      rw [Array.append_assoc, Array.getElem?_append_left this]; exact hz1
    · rename_i hi
      obtain ⟨z, hz1, hz2⟩ := h1.2 (i - rows.length) r j p g1 g2
      refine ⟨z, ?_, hz2⟩
      have hlt := (Array.getElem?_eq_some_iff.1 hz1).1
      have hge : rows.length * sz ≤ i * sz := Nat.mul_le_mul_right _ (by omega)
      rw [Nat.sub_mul] at hz1 hlt
      rw [Array.append_assoc, Array.getElem?_append_right (by rw [h0.1]; omega), h0.1, Array.getElem?_append_left (by omega), ← hz1]
      congr 1; omega

theorem ok_append_sl {o : Oper} {A : Nat → PV} {x y : Operand} {ts : Array TypeId} {t t' e e' : TypeId} {sz by' nx : Nat} {zs : List PV} {rows rows1 : List (List PV)} {rd1 : List (Nat × Slot)} {σ0 : Nat → Slot}
    (ho : o.op = .call { callee := .builtin .append, args := #[x, y], argTypes := ts }) (ht0 : ts[0]? = some t) (ht1 : ts[1]? = some t') (hu : P.underlying t = some (.slice e)) (hu' : P.underlying t' = some (.slice e'))
    (hs : tsz P e = some sz) (hby : tby P e = some by') (hz : tzero P e = some zs) (hzl : zs.length = sz) (hx : ev A x = .sl true rows) (hy : srcRows σ0 (ev A y) = some rows1) (hrd1 : ∀ t ∈ srcIds (ev A y), (t, σ0 t) ∈ rd1)
    (hr0 : ∀ r ∈ rows, r.length = sz) (hr1 : ∀ r ∈ rows1, r.length = sz) (hb0 : by' ≠ 0) (hb : by' ≤ 1024) (hn : rows.length + rows1.length ≤ 68719476736) (hne : rows = [] ∨ rows1 ≠ []) :
    OpOK Γ P o A ⟨.os sz nx 0 (rows.length + rows1.length), (nx, .fresh) :: rd1, [(nx, .live (.rows sz (rows ++ rows1)))]⟩ := by
  intro F μ σ a w hsr ht hrd
  have hf : σ nx = .fresh := hrd (nx, .fresh) (List.mem_cons_self ..)
  have hσ : srcRows σ (ev A y) = some rows1 := by
    rw [← hy]
    have key : ∀ t ∈ srcIds (ev A y), σ t = σ0 t := fun t ht => hrd (t, σ0 t) (List.mem_cons_of_mem _ (hrd1 t ht))
    cases hq : ev A y with
    | os sz t i n => rw [hq] at key; simp only [srcRows, key t (by simp [srcIds])]
    | oa sz t i off n => rw [hq] at key; simp only [srcRows, key t (by simp [srcIds])]
    | _ => rfl
  have e1 := ev_of ht (x := x) (by rw [ho]; simp [Op.operands, Call.operands])
  have e2 := ev_of ht (x := y) (by rw [ho]; simp [Op.operands, Call.operands])
  have e1' := e1
  rw [hx] at e1
  simp only [tzero, Option.map_eq_some_iff] at hz
  obtain ⟨zv, hzv, rfl⟩ := hz
  have hcap : ∃ ad, a.eval x = .slice ad rows.length rows.length ∧ rows.length ≤ 140737488355328 := by
    generalize a.eval x = v at e1
    cases e1 with
    | pure h => cases h with
      | nil _ ad cap hf => exact ⟨ad, by rw [hf rfl]; rfl, Nat.zero_le _⟩
      | sl _ _ _ b off cap vs _ _ hlen hf _ _ _ _ => exact ⟨_, by rw [hf rfl], hlen⟩
  obtain ⟨ad, hxe, hlen⟩ := hcap
  obtain ⟨kc, hkc⟩ := run_builtin' (P := P) (ρ := a.eval) ho w
  rw [hkc]
  have hargs : (#[x, y] : Array Operand).map a.eval = #[a.eval x, a.eval y] := by simp
  rw [hargs, hxe]
  obtain ⟨a1, c1, cells1, q1, q2, q3, q4, q5⟩ := src_spec (drew_srel hsr) (drew_rep e2) hσ hr1
  by_cases hn1 : rows1 = []
  · have hr : rows = [] := hne.resolve_right (fun h => h hn1)
    subst hn1 hr
    obtain ⟨a2, c2, cells2, p1, p2, p3, p4, p5⟩ := src_spec hsr e2 hσ hr1
    have hc0 : cells2 = #[] := by simpa using p4
    subst hc0
    have := run_append_room (P := P) (kc := kc) (ty' := o.type) (n := 0) (cap := 0) (a := ad) (w := w) (w' := w) ht0 ht1 hu hu' hs p1 p3 (Nat.le_refl _) (fun b _ => by simp [storeCells]) (fun _ => rfl)
    simp only [List.length_nil] at this ⊢
    rw [this]
    obtain ⟨k1, k2, k3, _⟩ := srel_ph (sz := sz) hsr hf
    exact ⟨_, k1, .ph sz nx ad (upd_same _ _ _), k2, k3⟩
  · have hpos : 0 < rows1.length := List.length_pos_iff.2 hn1
    have e1d := drew_rep e1'
    rw [hx, hxe] at e1d
    obtain ⟨a0, c0, cells0, p1, p2, p3, p4, p5⟩ := src_spec (σ := σ) (drew_srel hsr) e1d (rows := rows) rfl hr0
    obtain ⟨newCap, hle, hrun⟩ := run_append_grow (P := P) (kc := kc) (ty' := o.type) (n := rows.length) (cap := rows.length) (a := ad) (w := w) ht0 ht1 hu hu' hs hby hzv q1 q3 p3 (by omega) hb0 hb hn
    rw [hrun]
    have hlift : ∀ {q : PV} {v : Value}, Rep (drewW w) (OwnF F μ σ) μ q v → Rep (pushW (drewW w) (.cells (cells0 ++ cells1 ++ Builtin.zeroCells zv.cells (newCap - (rows.length + rows1.length))) e)) (OwnF F (upd μ nx (.at (drewW w).heap.size)) (upd σ nx (.live (.rows sz (rows ++ rows1))))) (upd μ nx (.at (drewW w).heap.size)) q v :=
      fun h => rep_new (drew_srel hsr) hf h
    have hB := cells_brep (w := pushW (drewW w) (.cells (cells0 ++ cells1 ++ Builtin.zeroCells zv.cells (newCap - (rows.length + rows1.length))) e)) (O := OwnF F (upd μ nx (.at (drewW w).heap.size)) (upd σ nx (.live (.rows sz (rows ++ rows1)))))
      (μ := upd μ nx (.at (drewW w).heap.size)) (sz := sz) (rows := rows) (rows1 := rows1) (b := (drewW w).heap.size) pushW_new ⟨p4, fun i r j q g1 g2 => let ⟨z, z1, z2⟩ := p5 i r j q g1 g2; ⟨z, z1, hlift z2⟩⟩ ⟨q4, fun i r j q g1 g2 => let ⟨z, z1, z2⟩ := q5 i r j q g1 g2; ⟨z, z1, hlift z2⟩⟩ hr0 hr1
    obtain ⟨k1, k2, k3⟩ := srel_new (drew_srel hsr) hf hB
    refine ⟨_, k1, ?_, drew_ext k2, k3⟩
    refine rep_os0 (upd_same μ nx _) hle (by omega) ⟨e, _, pushW_shape (w := drewW w), ?_⟩
    have hzs : zv.cells.size = sz := by simpa using hzl
    simp only [Array.size_append, p4, q4, Builtin.zeroCells, Array.size_map, Array.size_range, hzs]
    rw [← Nat.add_mul, ← Nat.add_mul]
    exact Nat.mul_le_mul_right _ (by omega)

theorem ok_append_os {o : Oper} {A : Nat → PV} {x y : Operand} {ts : Array TypeId} {t t' e e' : TypeId} {sz by' nx b0 n0 : Nat} {zs : List PV} {rows rows1 : List (List PV)} {rd1 : List (Nat × Slot)} {σ0 : Nat → Slot}
    (ho : o.op = .call { callee := .builtin .append, args := #[x, y], argTypes := ts }) (ht0 : ts[0]? = some t) (ht1 : ts[1]? = some t') (hu : P.underlying t = some (.slice e)) (hu' : P.underlying t' = some (.slice e'))
    (hs : tsz P e = some sz) (hby : tby P e = some by') (hz : tzero P e = some zs) (hzl : zs.length = sz) (hx : ev A x = .os sz b0 0 n0) (hb0' : σ0 b0 = .live (.rows sz rows)) (hn0 : n0 = rows.length)
    (hy : srcRows σ0 (ev A y) = some rows1) (hrd1 : ∀ t ∈ srcIds (ev A y), (t, σ0 t) ∈ rd1)
    (hr1 : ∀ r ∈ rows1, r.length = sz) (hcell : rows1.all (fun r => r.all cellP) = true) (hb0 : by' ≠ 0) (hb : by' ≤ 1024) (hn : rows.length + rows1.length ≤ 68719476736) :
    OpOK Γ P o A ⟨.os sz nx 0 (rows.length + rows1.length), (nx, .fresh) :: (b0, .live (.rows sz rows)) :: rd1, [(nx, .live (.rows sz (rows ++ rows1))), (b0, .dead)]⟩ := by
  subst hn0
  intro F μ σ a w hsr ht hrd
  have hf : σ nx = .fresh := hrd (nx, .fresh) (List.mem_cons_self ..)
  have hσb : σ b0 = .live (.rows sz rows) := hrd (b0, .live (.rows sz rows)) (List.mem_cons_of_mem _ (List.mem_cons_self ..))
  have hne : nx ≠ b0 := fun e => by rw [e, hσb] at hf; cases hf
  have hσ : srcRows σ (ev A y) = some rows1 := by
    rw [← hy]
    have key : ∀ t ∈ srcIds (ev A y), σ t = σ0 t := fun t ht => hrd (t, σ0 t) (List.mem_cons_of_mem _ (List.mem_cons_of_mem _ (hrd1 t ht)))
    cases hq : ev A y with
    | os sz t i n => rw [hq] at key; simp only [srcRows, key t (by simp [srcIds])]
    | oa sz t i off n => rw [hq] at key; simp only [srcRows, key t (by simp [srcIds])]
    | _ => rfl
  have e1 := ev_of ht (x := x) (by rw [ho]; simp [Op.operands, Call.operands])
  have e2 := ev_of ht (x := y) (by rw [ho]; simp [Op.operands, Call.operands])
  have e1' := e1
  rw [hx] at e1
  simp only [tzero, Option.map_eq_some_iff] at hz
  obtain ⟨zv, hzv, rfl⟩ := hz
  have hzs : zv.cells.size = sz := by simpa using hzl
  have hB0 := hsr.live b0 _ hσb
  have hrows : ∀ r ∈ rows, r.length = sz := by
    cases hm : μ b0 with
    | no => rw [hm] at hB0; exact hB0.elim
    | ph => rw [hm] at hB0; have : rows = [] := hB0; subst this; intro r hr; cases hr
    | «at» bb => rw [hm] at hB0; obtain ⟨c, ty, lo, hi, _, _, _, e4, _⟩ := hB0; exact e4
  obtain ⟨kc, hkc⟩ := run_builtin' (P := P) (ρ := a.eval) ho w
  rw [hkc]
  have hargs : (#[x, y] : Array Operand).map a.eval = #[a.eval x, a.eval y] := by simp
  rw [hargs]
  -- what grows
  have grow : ∀ (ad : Option Addr) (cap : Nat), a.eval x = .slice ad rows.length cap → cap < rows.length + rows1.length →
      match (builtin .append ts o.type kc #[a.eval x, a.eval y]).run P w with
      | .ok (.value v) w' => Good Γ F μ σ w ⟨.os sz nx 0 (rows.length + rows1.length), (nx, .fresh) :: (b0, .live (.rows sz rows)) :: rd1, [(nx, .live (.rows sz (rows ++ rows1))), (b0, .dead)]⟩ v w'
      | .ok .skip w' => Good Γ F μ σ w ⟨.os sz nx 0 (rows.length + rows1.length), (nx, .fresh) :: (b0, .live (.rows sz rows)) :: rd1, [(nx, .live (.rows sz (rows ++ rows1))), (b0, .dead)]⟩ undef w'
      | .ok (.enter f args) w' => Calls P f args w' fun e w'' => ∃ y, e = .returned y ∧ Good Γ F μ σ w ⟨.os sz nx 0 (rows.length + rows1.length), (nx, .fresh) :: (b0, .live (.rows sz rows)) :: rd1, [(nx, .live (.rows sz (rows ++ rows1))), (b0, .dead)]⟩ y w''
      | _ => False := by
    intro ad cap hxe hcap
    obtain ⟨a1, c1, cells1, q1, q2, q3, q4, q5⟩ := src_spec (drew_srel hsr) (drew_rep e2) hσ hr1
    have e1d := drew_rep e1'
    rw [hx, hxe] at e1d
    obtain ⟨a0, c0, cells0, p1, p2, p3, p4, p5⟩ := src_spec (σ := σ) (drew_srel hsr) e1d (rows := rows) (by simp [srcRows, hσb]) hrows
    obtain ⟨newCap, hle, hrun⟩ := run_append_grow (P := P) (kc := kc) (ty' := o.type) (n := rows.length) (cap := cap) (a := ad) (w := w) ht0 ht1 hu hu' hs hby hzv q1 q3 p3 hcap hb0 hb hn
    rw [hxe, hrun]
    have hlift : ∀ {q : PV} {v : Value}, Rep (drewW w) (OwnF F μ σ) μ q v → Rep (pushW (drewW w) (.cells (cells0 ++ cells1 ++ Builtin.zeroCells zv.cells (newCap - (rows.length + rows1.length))) e)) (OwnF F (upd μ nx (.at (drewW w).heap.size)) (upd σ nx (.live (.rows sz (rows ++ rows1))))) (upd μ nx (.at (drewW w).heap.size)) q v :=
      fun h => rep_new (drew_srel hsr) hf h
    have hB := cells_brep (w := pushW (drewW w) (.cells (cells0 ++ cells1 ++ Builtin.zeroCells zv.cells (newCap - (rows.length + rows1.length))) e)) (O := OwnF F (upd μ nx (.at (drewW w).heap.size)) (upd σ nx (.live (.rows sz (rows ++ rows1)))))
      (μ := upd μ nx (.at (drewW w).heap.size)) (sz := sz) (rows := rows) (rows1 := rows1) (b := (drewW w).heap.size) pushW_new ⟨p4, fun i r j q g1 g2 => let ⟨z, z1, z2⟩ := p5 i r j q g1 g2; ⟨z, z1, hlift z2⟩⟩ ⟨q4, fun i r j q g1 g2 => let ⟨z, z1, z2⟩ := q5 i r j q g1 g2; ⟨z, z1, hlift z2⟩⟩ hrows hr1
    obtain ⟨k1, k2, k3⟩ := srel_new (drew_srel hsr) hf hB
    obtain ⟨m1, m2, m3⟩ := srel_kill k1 (t := b0) (by rw [upd_ne _ _ (Ne.symm hne), hσb]; simp)
    rw [upd_comm _ _ _ hne] at m1 m2
    refine ⟨_, m1, ?_, drew_ext (k2.trans m2), k3⟩
    refine rep_os0 (upd_same μ nx _) hle (by omega) ⟨e, _, pushW_shape (w := drewW w), ?_⟩
    simp only [Array.size_append, p4, q4, Builtin.zeroCells, Array.size_map, Array.size_range, hzs]
    rw [← Nat.add_mul, ← Nat.add_mul]
    exact Nat.mul_le_mul_right _ (by omega)
  generalize hv : a.eval x = v at e1
  obtain ⟨N0, hN⟩ : ∃ N0, rows.length = N0 := ⟨_, rfl⟩
  rw [hN] at e1
  cases e1 with
  | pure h => cases h
  | ph _ _ ad hm =>
    rw [hm] at hB0
    have hr0 : rows = [] := hB0
    by_cases hn1 : rows1 = []
    · subst hn1 hr0
      obtain ⟨a2, c2, cells2, p1, p2, p3, p4, p5⟩ := src_spec hsr e2 hσ hr1
      have hc0 : cells2 = #[] := by simpa using p4
      subst hc0
      have := run_append_room (P := P) (kc := kc) (ty' := o.type) (n := 0) (cap := 0) (a := ad) (w := w) (w' := w) ht0 ht1 hu hu' hs p1 p3 (Nat.le_refl _) (fun b _ => by simp [storeCells]) (fun _ => rfl)
      simp only [List.length_nil] at this ⊢
      rw [this]
      obtain ⟨k1, k2, k3, _⟩ := srel_rename hsr hσb hf
      refine ⟨_, k1, .ph sz nx ad (by rw [upd_same]; exact hm), k2, k3⟩
    · rw [← hv]
      refine grow ad 0 ?_ ?_
      · rw [hv, hN]
      · have : 0 < rows1.length := List.length_pos_iff.2 hn1
        omega
  | os _ _ _ _ bb cap hm hncap hlen hsh =>
    subst hN
    by_cases hfit : rows.length + rows1.length ≤ cap
    · obtain ⟨a1, c1, cells1, q1, q2, q3, q4, q5⟩ := src_spec hsr e2 hσ hr1
      rw [hm] at hB0
      obtain ⟨c, ty, lo, hi, g1, g2, g3, g4, g5⟩ := hB0
      obtain ⟨ty', m, hsh1, hsh2⟩ := hsh
      have hm' : m = c.size := by simp only [World.shape?, g1, Option.some.injEq, Prod.mk.injEq] at hsh1; exact hsh1.2.symm
      subst hm'
      rw [Nat.zero_add] at hsh2
      have hsize : rows.length * sz + rows1.length * sz ≤ c.size := by
        have : (rows.length + rows1.length) * sz ≤ cap * sz := Nat.mul_le_mul_right _ hfit
        rw [Nat.add_mul] at this; omega
      have hcl : cells1.toList.length = rows1.length * sz := by simpa using q4
      have hst := run_storeCells (P := P) bb (rows.length * sz) ty lo hi g2 cells1.toList 0 c w g1 (by rw [hcl]; omega) (fun z hz' => by
        obtain ⟨k, hk⟩ := List.getElem?_of_mem hz'
        have hk' : cells1[k]? = some z := by simpa using hk
        have hklt : k < rows1.length * sz := by rw [← q4]; exact (Array.getElem?_eq_some_iff.1 hk').1
        have hsz0 : 0 < sz := by rcases Nat.eq_zero_or_pos sz with h | h; (rw [h] at hklt; simp at hklt); exact h
        have hi' : k / sz < rows1.length := by rw [Nat.div_lt_iff_lt_mul hsz0]; exact hklt
        have hj' : k % sz < sz := Nat.mod_lt _ hsz0
        have hrl : (rows1[k / sz]).length = sz := hr1 _ (List.getElem_mem _)
        obtain ⟨z', hz1, hz2⟩ := q5 (k / sz) rows1[k / sz] (k % sz) (rows1[k / sz][k % sz]'(by omega)) (by simp) (by simp)
        rw [Nat.div_add_mod' k sz, hk'] at hz1
        cases hz1
        refine hz2.cellV ?_
        simp only [List.all_eq_true] at hcell
        exact hcell _ (List.getElem_mem _) _ (List.getElem_mem _))
      rw [Nat.add_zero] at hst
      have hrun := run_append_room (P := P) (kc := kc) (ty' := o.type) (n := rows.length) (cap := cap) (a := some ⟨bb, 0 * sz, none⟩) (w := w) ht0 ht1 hu hu' hs q1 q3 hfit
        (fun b hb => by cases hb; rw [addr_add, Nat.zero_mul, Nat.zero_add]; exact hst) (fun h => by cases h)
      rw [hrun]
      have hown : Own μ σ bb := ⟨b0, _, hσb, hm⟩
      have hshape : (setBlk w bb (.cells (writeAt c (rows.length * sz) cells1.toList) ty (lo, hi))).shape? bb = w.shape? bb := by
        simp [World.shape?, setBlk_same (lt_of_heap g1), g1, writeAt_size]
      have hkeep : Keeps w (OwnF F μ σ) (setBlk w bb (.cells (writeAt c (rows.length * sz) cells1.toList) ty (lo, hi))) (OwnF F μ σ) :=
        ⟨by rw [setBlk_size]; exact Nat.le_refl _, fun k _ hk => ⟨setBlk_ne fun e => hk (by subst e; exact .inr hown), hk⟩⟩
      have hsh2' : ∀ k, k < w.heap.size → (setBlk w bb (.cells (writeAt c (rows.length * sz) cells1.toList) ty (lo, hi))).shape? k = w.shape? k := fun k _ => by
        by_cases e : k = bb
        · subst e; exact hshape
        · simp only [World.shape?, setBlk_ne e]
      have lift : ∀ {p : PV} {z : Value}, Rep w (OwnF F μ σ) μ p z → Rep (setBlk w bb (.cells (writeAt c (rows.length * sz) cells1.toList) ty (lo, hi))) (OwnF F μ σ) μ p z := fun h => h.mono hkeep hsh2' (MuExt.refl _)
      have hB' : BRep (setBlk w bb (.cells (writeAt c (rows.length * sz) cells1.toList) ty (lo, hi))) (OwnF F μ σ) μ (.rows sz (rows ++ rows1)) (.at bb) := by
        refine ⟨_, ty, lo, hi, setBlk_same (lt_of_heap g1), g2, by rw [writeAt_size, List.length_append, Nat.add_mul]; exact hsize, fun r hr => ?_, fun i r j p k1 k2 => ?_⟩
        · rcases List.mem_append.1 hr with h | h
          · exact hrows r h
          · exact hr1 r h
        · have hget := writeAt_get cells1.toList c (rows.length * sz) (i * sz + j) (by rw [hcl]; exact hsize)
          rw [hcl] at hget
          rw [hget]
          rw [List.getElem?_append] at k1
          split at k1
          · rename_i hi'
            have hrl : r.length = sz := hrows r (List.mem_of_getElem? k1)
            have hj : j < sz := by rw [← hrl]; exact (List.getElem?_eq_some_iff.1 k2).1
            have : (i + 1) * sz ≤ rows.length * sz := Nat.mul_le_mul_right _ hi'
            rw [Nat.add_mul] at this
            rw [if_neg (by omega)]
            obtain ⟨z, z1, z2⟩ := g5 i r j p k1 k2
            exact ⟨z, z1, lift z2⟩
          · rename_i hi'
            have hrl : r.length = sz := hr1 r (List.mem_of_getElem? k1)
            have hj : j < sz := by rw [← hrl]; exact (List.getElem?_eq_some_iff.1 k2).1
            have hlt : i - rows.length < rows1.length := (List.getElem?_eq_some_iff.1 k1).1
            have h1 : rows.length * sz ≤ i * sz := Nat.mul_le_mul_right _ (by omega)
            have h2 : (i - rows.length + 1) * sz ≤ rows1.length * sz := Nat.mul_le_mul_right _ hlt
            rw [Nat.add_mul, Nat.sub_mul] at h2
            rw [if_pos (by omega)]
            obtain ⟨z, z1, z2⟩ := q5 (i - rows.length) r j p k1 k2
            refine ⟨z, ?_, lift z2⟩
            rw [Nat.sub_mul] at z1
            rw [Array.getElem?_toList, show i * sz + j - rows.length * sz = i * sz - rows.length * sz + j from by omega]
            exact z1
      obtain ⟨s1, s2⟩ := srel_set hsr hσb hm hshape hB'
      have hf' : upd σ b0 (.live (.rows sz (rows ++ rows1))) nx = .fresh := by rw [upd_ne _ _ hne]; exact hf
      obtain ⟨r1, r2, r3, _⟩ := srel_rename s1 (upd_same σ b0 _) hf'
      have hupd : ∀ s, upd (upd σ b0 s) b0 .dead = upd σ b0 .dead := fun s => by funext k; simp only [upd]; split <;> rfl
      rw [hupd] at r1 r2
      refine ⟨_, r1, ?_, s2.trans r2, r3⟩
      rw [Nat.zero_mul]
      refine rep_os0 (by rw [upd_same]; exact hm) hfit (by omega) ⟨ty, c.size, ?_, hsh2⟩
      rw [hshape]
      simp only [World.shape?, g1]
    · rw [← hv]
      exact grow (some ⟨bb, 0 * sz, none⟩) cap hv (by omega)

end Go.Am
/- Calls by contract. -/
namespace Go.Am
variable {Γ : Nat → Option Obj} {P : Program}

/-- A call as one step. -/
def CallOK (Γ : Nat → Option Obj) (P : Program) (g : FuncId) (args : List PV) (r : Rec) : Prop :=
  ∀ (F : Nat → Prop) (μ : Nat → Mu) (σ : Nat → Slot) (w : World) (cargs : Array Value), SRel Γ F w μ σ → Reps w (OwnF F μ σ) μ args cargs.toList → (∀ p ∈ r.rd, σ p.1 = p.2) →
    Calls P g cargs w fun e w' => ∃ y, e = .returned y ∧ Good Γ F μ σ w r y w'

/-- A mark that keeps what it speaks of from being rewritten. -/
inductive Tok {α : Type} (x : α) : Type where
  | mk : Tok x

def CallK (Γ : Nat → Option Obj) (P : Program) (g : FuncId) (args : List PV) (σ : Nat → Slot) (nx : Nat) (K : PV → List Nat → List (Nat × Slot) → Nat → Prop) (_ : Tok K) : Prop :=
  ∃ (r : Rec) (nx' : Nat), CallOK Γ P g args r ∧ Ent P g ∧ (∀ p ∈ r.rd, σ p.1 = p.2) ∧ nx ≤ nx' ∧ K r.val (r.rd.map (·.1)) r.wr nx'

theorem ok_call {o : Oper} {A : Nat → PV} {f : Operand} {xs : Array Operand} {ts : Array TypeId} {g : FuncId} {first caps : List PV} {r : Rec}
    (ho : o.op = .call { callee := .value f, args := xs, argTypes := ts }) (hf : ev A f = .fn (.func g) first caps) (he : Ent P g)
    (h : CallOK Γ P g (first ++ xs.toList.map (ev A) ++ caps) r) : OpOK Γ P o A r := by
  intro F μ σ a w hs ht hrd
  have e1 := ev_of ht (x := f) (by rw [ho]; simp [Op.operands, Call.operands])
  rw [hf] at e1
  have hargs : Reps w (OwnF F μ σ) μ (xs.toList.map (ev A)) (xs.toList.map a.eval) :=
    ⟨by simp, reps_map xs.toList fun x hx => ev_of ht (by rw [ho]; simp [Op.operands, Call.operands]; exact .inr (by simpa using hx))⟩
  generalize hz : a.eval f = z at e1
  have fin : ∀ (ys zs : Array Value), z = .func (.func g) ys zs → Reps w (OwnF F μ σ) μ first ys.toList → Reps w (OwnF F μ σ) μ caps zs.toList →
      match (execOp a.eval o).run P w with
      | .ok (.value y) w' => Good Γ F μ σ w r y w'
      | .ok .skip w' => Good Γ F μ σ w r undef w'
      | .ok (.enter f args) w' => Calls P f args w' fun e w'' => ∃ y, e = .returned y ∧ Good Γ F μ σ w r y w''
      | _ => False := by
    intro ys zs hzv h1 h2
    have hrun : (execOp a.eval o).run P w = .ok (.enter g (ys ++ xs.map a.eval ++ zs)) w := by
      simp only [execOp, ho, resolve, hz, hzv, Deferred.ofValue, Sem.run_bind, Sem.run_pure, Result.andThen, invoke]
      exact he _ w
    rw [hrun]
    refine h F μ σ w _ hs ?_ hrd
    have := (h1.append hargs).append h2
    simpa using this
  cases e1 with
  | pure h' => cases h' with
    | fn _ _ _ ys zs hl hl' hh hh' =>
      exact fin ys zs rfl ⟨by simpa using hl, fun i p y g1 g2 => .pure (hh i p y g1 (by simpa using g2))⟩ ⟨by simpa using hl', fun i p y g1 g2 => .pure (hh' i p y g1 (by simpa using g2))⟩
  | fn _ _ _ ys zs hl hl' hh hh' =>
    exact fin ys zs rfl ⟨by simpa using hl, fun i p y g1 g2 => hh i p y g1 (by simpa using g2)⟩ ⟨by simpa using hl', fun i p y g1 g2 => hh' i p y g1 (by simpa using g2)⟩

theorem SRel.fr {F : Nat → Prop} {μ : Nat → Mu} {σ : Nat → Slot} {w : World} (h : SRel Γ F w μ σ) : Fr Γ (OwnF F μ σ) w := ⟨fun _ hb => ownF_lt h hb, h.gam⟩

/-- Whatever happens outside of the blocks of the call's own leaves them. -/
theorem SRel.out {F : Nat → Prop} {μ : Nat → Mu} {σ : Nat → Slot} {w w' : World} (h : SRel Γ F w μ σ) (hx : Ext w (fun _ => False) w' (fun _ => False)) : SRel Γ F w' μ σ := by
  have hk : Keeps w (OwnF F μ σ) w' (OwnF F μ σ) := ⟨hx.size, fun b hb hO => ⟨(hx.keep b hb fun h => h).1, hO⟩⟩
  exact ⟨h.fresh, fun t B ht => brep_keep hk hx.shape (MuExt.refl _) (fun b hb => (hx.keep b (own_lt h ⟨t, B, ht, hb⟩) fun h => h).1) (h.live t B ht), h.inj, h.notF,
    fun b hb => Nat.lt_of_lt_of_le (h.ffin b hb) hx.size, fun b o hb => by
      have h1 := h.gam b o hb
      exact ⟨((hx.keep b (lt_of_heap h1.1) fun h => h).1).trans h1.1, h1.2⟩⟩

theorem Ext.anyO {w w' : World} {O : Nat → Prop} (hx : Ext w (fun _ => False) w' (fun _ => False)) : Ext w O w' O :=
  ⟨hx.size, fun b hb hO => ⟨(hx.keep b hb fun h => h).1, hO⟩, hx.shape, hx.os, hx.out⟩

/-- A call of a function of data, with data. -/
theorem callOK_pure {g : FuncId} {args : List PV} {p : PV} (h : Pure Γ P g args p) (hp : isPL args = true) : CallOK Γ P g args ⟨p, [], []⟩ := by
  intro F μ σ w cargs hs ha _
  rw [isPL_eq, List.all_eq_true] at hp
  refine (h (OwnF F μ σ) w cargs hs.fr ⟨ha.1, fun i q y h1 h2 => (ha.2 i q y h1 h2).isP (hp q (List.mem_of_getElem? h1))⟩).mono ?_
  rintro e w' ⟨y, rfl, hy, hx⟩
  exact ⟨y, rfl, μ, hs.out hx, .pure hy, hx.anyO, MuExt.refl _⟩

theorem CallK_pure {g : FuncId} {args : List PV} {p : PV} {σ : Nat → Slot} {nx : Nat} {K : PV → List Nat → List (Nat × Slot) → Nat → Prop} (h : Pure Γ P g args p) (he : Ent P g)
    (hp : isPL args = true) (hK : K p [] [] nx) : CallK Γ P g args σ nx K .mk :=
  ⟨⟨p, [], []⟩, nx, callOK_pure h hp, he, by simp, Nat.le_refl _, hK⟩

/-! ### A function's body -/
def entry (args : List PV) : Nat → PV := fun t => args.getD t .any

theorem calls_of_AW {f : FuncId} {fn : Func} {c : Code} {args : List PV} {σ : Nat → Slot} {k : Nat} {Q : Exit → St → Prop} (hf : P.funcs[f]? = some fn) (hb : fn.body = some c)
    (hn : args.length ≤ fn.ntmps) (h : AW Γ P fn.ntmps k c Q ⟨entry args, σ⟩) {F : Nat → Prop} {μ : Nat → Mu} {w : World} {cargs : Array Value} (hs : SRel Γ F w μ σ)
    (ha : Reps w (OwnF F μ σ) μ args cargs.toList) {R : Ending → World → Prop}
    (hR : ∀ e a' w' μ' st', Rel Γ F fn.ntmps μ' st' a' w' → Ext w (Own μ σ) w' (Own μ' st'.σ) → (∀ t, t < k → μ t ≠ .no → μ' t = μ t) → Q e st' → bodyPost P fn R e a' w') :
    Calls P f cargs w R := by
  refine calls_of_wp hf hb ?_
  have hsz : cargs.size = args.length := by simpa using ha.1.symm
  refine wp_mono (h F μ _ w ⟨by simp; omega, rfl, fun t => ?_, hs⟩) fun e a' w' ⟨μ', st', h1, h2, h3, h4⟩ => hR e a' w' μ' st' h1 h2 h3 h4
  by_cases ht : t < args.length
  · have h1 : (cargs ++ Array.replicate (fn.ntmps - cargs.size) undef).getD t undef = cargs[t]'(by omega) := by
      rw [Array.getD_eq_getD_getElem?, Array.getElem?_append_left (by omega)]
      simp [show t < cargs.size from by omega]
    show Rep w _ μ (entry args t) ((cargs ++ Array.replicate (fn.ntmps - cargs.size) undef).getD t undef)
    rw [h1]
    exact ha.2 t _ _ (by simp [entry, ht]) (by simp [show t < cargs.size from by omega])
  · have h1 : entry args t = .any := by simp [entry, List.getElem?_eq_none (Nat.le_of_not_lt ht)]
    show Rep w _ μ (entry args t) _
    rw [h1]; exact .any _

/-- What a function hands back. -/
def ResA (Γ : Nat → Option Obj) (P : Program) (fn : Func) (st : St) (r : PV) : Prop :=
  ∀ (F : Nat → Prop) (N : Nat) (μ : Nat → Mu) (a : Act) (w : World), Rel Γ F N μ st a w → ∃ y, (results fn a.tmps).run P w = .ok y w ∧ Rep w (OwnF F μ st.σ) μ r y

/-- .. told by data that stays when the call's own blocks are forgotten. -/
def Viewable (Γ : Nat → Option Obj) (σ : Nat → Slot) (r r' : PV) : Prop :=
  ∀ (F : Nat → Prop) (μ : Nat → Mu) (w : World) (y : Value), SRel Γ F w μ σ → Rep w (OwnF F μ σ) μ r y → PRep w F r' y

theorem PRep.weaken {w : World} {O O' : Nat → Prop} (h : ∀ b, O' b → O b) {p : PV} {y : Value} (hp : PRep w O p y) : PRep w O' p y :=
  hp.mono ⟨Nat.le_refl _, fun b _ hb => ⟨rfl, fun h' => hb (h b h')⟩⟩

theorem Viewable.isP {σ : Nat → Slot} {r : PV} (h : isP r = true) : Viewable Γ σ r r := fun _ _ _ _ _ hr => (hr.isP h).weaken fun _ hb => .inl hb

/-- How a function of data ends. -/
def PureQ (Γ : Nat → Option Obj) (P : Program) (fn : Func) (p : PV) (e : Exit) (st : St) : Prop :=
  (e = .normal ∨ e = .ret) ∧ ∃ r, ResA Γ P fn st r ∧ Viewable Γ st.σ r p

theorem Ext.toNone {w w' : World} {O O' : Nat → Prop} (h : Ext w O w' O') (hO : ∀ b, ¬ O b) : Ext w (fun _ => False) w' (fun _ => False) :=
  ⟨h.size, fun b hb _ => ⟨(h.keep b hb (hO b)).1, fun h => h⟩, h.shape, h.os, h.out⟩

theorem pure_of_AW {f : FuncId} {fn : Func} {c : Code} {args : List PV} {p : PV} (hf : P.funcs[f]? = some fn) (hb : fn.body = some c) (hn : args.length ≤ fn.ntmps)
    (h : AW Γ P fn.ntmps 0 c (PureQ Γ P fn p) ⟨entry args, noσ⟩) : Pure Γ P f args p := by
  intro F w cargs hfr ha
  have hown : ∀ b, ¬ Own (fun _ => .no) noσ b := by rintro b ⟨t, B, ht, _⟩; cases ht
  have hs : SRel Γ F w (fun _ => .no) noσ := by
    refine ⟨fun _ _ => rfl, ?_, ?_, ?_, hfr.ffin, ?_⟩
    · intro t B ht; cases ht
    · intro t u B B' b ht; cases ht
    · intro t B b ht; cases ht
    · intro b o hb
      exact ⟨(hfr.gam b o hb).1, fun h' => h'.elim (hfr.gam b o hb).2 (hown b)⟩
  refine calls_of_AW hf hb hn h hs ⟨ha.1, fun i q y h1 h2 => .pure ((ha.2 i q y h1 h2).weaken fun b hb => hb.elim id fun h' => absurd h' (hown b))⟩ ?_
  intro e a' w' μ' st' hr hx _ hq
  obtain ⟨he, r, hres, hv⟩ := hq
  obtain ⟨y, hy, hrep⟩ := hres F _ μ' a' w' hr
  have hfin : ∃ y', Ending.returned y = .returned y' ∧ PRep w' F p y' ∧ Ext w (fun _ => False) w' (fun _ => False) := ⟨y, rfl, hv F μ' w' y hr.sto hrep, hx.toNone hown⟩
  rcases he with rfl | rfl
  · exact ⟨hr.dfs, y, hy, hfin⟩
  · exact ⟨hr.dfs, y, hy, hfin⟩

theorem resA_tmp {fn : Func} {t : Tmp} (h : fn.results = #[.tmp t]) {st : St} : ResA Γ P fn st (st.a t) :=
  fun _ _ _ a w hr => ⟨_, results_tmp h a.tmps P w, hr.tmp t⟩
theorem resA_none {fn : Func} (h : fn.results = #[]) {st : St} : ResA Γ P fn st (.tup []) :=
  fun _ _ _ a w hr => ⟨_, results_none h a.tmps P w, .tup [] #[] rfl fun i p y h1 h2 => by simp at h1⟩
theorem resA_tmp2 {fn : Func} {t u : Tmp} (h : fn.results = #[.tmp t, .tmp u]) {st : St} : ResA Γ P fn st (.tup [st.a t, st.a u]) :=
  fun _ _ _ a w hr => ⟨_, results_tmp2 h a.tmps P w, .tup _ _ rfl fun i p y h1 h2 => by
    match i with
    | 0 => simp at h1 h2; subst h1 h2; simpa using hr.tmp t
    | 1 => simp at h1 h2; subst h1 h2; simpa using hr.tmp u
    | i + 2 => simp at h1⟩

end Go.Am
/- min, max, clear, copy; calls that work on blocks of the caller's. -/
namespace Go.Am
variable {Γ : Nat → Option Obj} {P : Program}

theorem vals_of {w : World} {O : Nat → Prop} {μ : Nat → Mu} {A : Nat → PV} {a : Act} {o : Oper} (ht : ∀ t, Operand.tmp t ∈ o.op.operands.toList → Rep w O μ (A t) (a.tmps.getD t undef)) (xs : List Operand)
    (hx : ∀ x ∈ xs, x ∈ o.op.operands.toList) (vs : List Value) (h : vsOf (xs.map (ev A)) = some vs) : xs.map a.eval = vs :=
  toV_list (w := w) (O := O) (μ := μ) (xs.map (ev A)) vs (xs.map a.eval) h (by simp) (reps_map xs fun x h' => ev_of ht (hx x h'))

theorem ok_min {o : Oper} {A : Nat → PV} {xs : Array Operand} {ts : Array TypeId} {vs : List Value} {c : Value} (ho : o.op = .call { callee := .builtin .min, args := xs, argTypes := ts })
    (hv : vsOf (xs.toList.map (ev A)) = some vs) (hc : sc P (Builtin.min_ ts 0 vs.toArray) = some c) : OpOK Γ P o A ⟨.v c, [], []⟩ :=
  .value fun F μ σ a w _ ht _ => by
    have h1 := vals_of ht xs.toList (fun x hx => by rw [ho]; simp [Op.operands, Call.operands]; simpa using hx) vs hv
    have h2 : xs.map a.eval = vs.toArray := Array.toList_inj.1 (by rw [Array.toList_map]; exact h1)
    refine ⟨c, ?_, .pure (.v c)⟩
    obtain ⟨kc, hkc⟩ := run_builtin' (P := P) (ρ := a.eval) ho w
    rw [hkc, h2]
    have h3 : (Builtin.min_ ts o.type vs.toArray).run P w = .ok c w := sc_run hc w
    simp only [builtin]
    rw [Sem.run_bind, h3]; rfl

theorem ok_max {o : Oper} {A : Nat → PV} {xs : Array Operand} {ts : Array TypeId} {vs : List Value} {c : Value} (ho : o.op = .call { callee := .builtin .max, args := xs, argTypes := ts })
    (hv : vsOf (xs.toList.map (ev A)) = some vs) (hc : sc P (Builtin.max_ ts 0 vs.toArray) = some c) : OpOK Γ P o A ⟨.v c, [], []⟩ :=
  .value fun F μ σ a w _ ht _ => by
    have h1 := vals_of ht xs.toList (fun x hx => by rw [ho]; simp [Op.operands, Call.operands]; simpa using hx) vs hv
    have h2 : xs.map a.eval = vs.toArray := Array.toList_inj.1 (by rw [Array.toList_map]; exact h1)
    refine ⟨c, ?_, .pure (.v c)⟩
    obtain ⟨kc, hkc⟩ := run_builtin' (P := P) (ρ := a.eval) ho w
    rw [hkc, h2]
    have h3 : (Builtin.max_ ts o.type vs.toArray).run P w = .ok c w := sc_run hc w
    simp only [builtin]
    rw [Sem.run_bind, h3]; rfl

/-- Cells of a row of the call's own are written. -/
theorem good_store {F : Nat → Prop} {μ : Nat → Mu} {σ : Nat → Slot} {w : World} (hs : SRel Γ F w μ σ) {b bb i off sz ty lo hi : Nat} {rs : List (List PV)} {row cs : List PV} {c : Array Value} (hσ : σ b = .live (.rows sz rs)) (hm : μ b = .at bb)
    (e1 : w.heap[bb]? = some (.cells c ty (lo, hi))) (e2 : hi ≤ lo) (e3 : rs.length * sz ≤ c.size) (e4 : ∀ r ∈ rs, r.length = sz)
    (e5 : ∀ (i : Nat) (r : List PV) (j : Nat) p, rs[i]? = some r → r[j]? = some p → ∃ y, c[i * sz + j]? = some y ∧ Rep w (OwnF F μ σ) μ p y)
    (hr : rs[i]? = some row) (hl : off + cs.length ≤ row.length) {vs : List Value} (hvl : vs.length = cs.length) (hv : ∀ (k : Nat) p z, cs[k]? = some p → vs[k]? = some z → Rep w (OwnF F μ σ) μ p z) :
    SRel Γ F (setBlk w bb (.cells (writeAt c (i * sz + off) vs) ty (lo, hi))) μ (upd σ b (.live (.rows sz (rs.set i (putRow row off cs))))) ∧
    Ext w (Own μ σ) (setBlk w bb (.cells (writeAt c (i * sz + off) vs) ty (lo, hi))) (Own μ (upd σ b (.live (.rows sz (rs.set i (putRow row off cs)))))) := by
  have hi' : i < rs.length := (List.getElem?_eq_some_iff.1 hr).1
  have hrow : row.length = sz := e4 row (List.mem_of_getElem? hr)
  have hfit : i * sz + off + cs.length ≤ c.size := by
    have : (i + 1) * sz ≤ rs.length * sz := Nat.mul_le_mul_right _ hi'
    rw [Nat.add_mul] at this
    omega
  have hshape : (setBlk w bb (.cells (writeAt c (i * sz + off) vs) ty (lo, hi))).shape? bb = w.shape? bb := by
    simp [World.shape?, setBlk_same (lt_of_heap e1), e1, writeAt_size]
  have hkeep : Keeps w (OwnF F μ σ) (setBlk w bb (.cells (writeAt c (i * sz + off) vs) ty (lo, hi))) (OwnF F μ σ) :=
    ⟨by rw [setBlk_size]; exact Nat.le_refl _, fun k _ hk => ⟨setBlk_ne fun e => hk (by subst e; exact .inr ⟨b, _, hσ, hm⟩), hk⟩⟩
  have hsh2 : ∀ k, k < w.heap.size → (setBlk w bb (.cells (writeAt c (i * sz + off) vs) ty (lo, hi))).shape? k = w.shape? k := fun k _ => by
    by_cases e : k = bb
    · subst e; exact hshape
    · simp only [World.shape?, setBlk_ne e]
  have lift : ∀ {p : PV} {z : Value}, Rep w (OwnF F μ σ) μ p z → Rep (setBlk w bb (.cells (writeAt c (i * sz + off) vs) ty (lo, hi))) (OwnF F μ σ) μ p z := fun h => h.mono hkeep hsh2 (MuExt.refl _)
  refine srel_set hs hσ hm hshape ⟨_, ty, lo, hi, setBlk_same (lt_of_heap e1), e2, by simpa [writeAt_size] using e3, fun r hr' => ?_, fun i' r j p g1 g2 => ?_⟩
  · rcases List.mem_or_eq_of_mem_set hr' with h | h
    · exact e4 r h
    · rw [h, putRow_length (by omega), hrow]
  · have hget := writeAt_get vs c (i * sz + off) (i' * sz + j) (by rw [hvl]; exact hfit)
    rw [hvl] at hget
    rw [hget]
    by_cases e : i' = i
    · subst e
      have : r = putRow row off cs := by
        rw [List.getElem?_set_self hi'] at g1
        exact (Option.some.inj g1).symm
      subst this
      rw [putRow_get (by omega)] at g2
      by_cases hj : off ≤ j ∧ j < off + cs.length
      · rw [if_pos hj] at g2
        rw [if_pos (by omega), show i' * sz + j - (i' * sz + off) = j - off from by omega]
        have hlt : j - off < vs.length := by omega
        exact ⟨vs[j - off], by simp [hlt], lift (hv (j - off) p _ g2 (by simp [hlt]))⟩
      · rw [if_neg hj] at g2
        rw [if_neg (by omega)]
        obtain ⟨z', hz1, hz2⟩ := e5 i' row j p hr g2
        exact ⟨z', hz1, lift hz2⟩
    · rw [List.getElem?_set_ne (Ne.symm e)] at g1
      obtain ⟨z', hz1, hz2⟩ := e5 i' r j p g1 g2
      have hrl : r.length = sz := e4 r (List.mem_of_getElem? g1)
      have hjl : j < sz := by rw [← hrl]; exact (List.getElem?_eq_some_iff.1 g2).1
      rw [if_neg (by
        rintro ⟨q1, q2⟩
        rcases Nat.lt_or_ge i' i with hlt | hge
        · have : (i' + 1) * sz ≤ i * sz := Nat.mul_le_mul_right _ hlt
          rw [Nat.add_mul] at this; omega
        · have : (i + 1) * sz ≤ i' * sz := Nat.mul_le_mul_right _ (by omega)
          rw [Nat.add_mul] at this; omega)]
      exact ⟨z', hz1, lift hz2⟩

theorem zeroCells_one {z : Value} (n : Nat) : (Builtin.zeroCells #[z] n).toList = List.replicate n z := by
  simp only [Builtin.zeroCells, Array.toList_map, Array.toList_range]
  apply List.ext_getElem?
  intro k
  simp only [List.size_toArray, List.length_cons, List.length_nil, Nat.zero_add, Nat.mul_one, List.getElem?_map, List.getElem?_replicate]
  by_cases hk : k < n
  · simp [hk, Nat.mod_one]
  · simp [hk]

theorem ok_clear_oa {o : Oper} {A : Nat → PV} {x : Operand} {ts : Array TypeId} {t e : TypeId} {sz b i off n : Nat} {rs : List (List PV)} {row : List PV} {z : Value} (ho : o.op = .call { callee := .builtin .clear, args := #[x], argTypes := ts }) (ht0 : ts[0]? = some t)
    (hu : P.underlying t = some (.slice e)) (hz : (P.info? e).bind (·.zero) = some z) (hzc : isCellV z = true) (hx : ev A x = .oa sz b i off n) (hr : rs[i]? = some row) (hl : off + n ≤ row.length) :
    OpOK Γ P o A ⟨.tup [], [(b, .live (.rows sz rs))], [(b, .live (.rows sz (rs.set i (putRow row off (List.replicate n (constCell z))))))]⟩ := by
  intro F μ σ a w hs ht hrd
  have e1 := ev_of ht (x := x) (by rw [ho]; simp [Op.operands, Call.operands])
  rw [hx] at e1
  have hσ : σ b = .live (.rows sz rs) := hrd (b, .live (.rows sz rs)) (List.mem_cons_self ..)
  have hB := hs.live b _ hσ
  obtain ⟨kc, hkc⟩ := run_builtin' (P := P) (ρ := a.eval) ho w
  rw [hkc]
  have hargs : (#[x] : Array Operand).map a.eval = #[a.eval x] := by simp
  rw [hargs]
  generalize hv : a.eval x = v at e1
  cases e1 with
  | pure h => cases h
  | oa _ _ _ _ _ bb cap hm hn hlen =>
    rw [hm] at hB
    obtain ⟨c, ty, lo, hi, g1, g2, g3, g4, g5⟩ := hB
    have hzcells : z.cells = #[z] := by cases z <;> first | rfl | (simp [isCellV] at hzc)
    have hi' : i < rs.length := (List.getElem?_eq_some_iff.1 hr).1
    have hrow : row.length = sz := g4 row (List.mem_of_getElem? hr)
    have hfit : i * sz + off + n ≤ c.size := by
      have : (i + 1) * sz ≤ rs.length * sz := Nat.mul_le_mul_right _ hi'
      rw [Nat.add_mul] at this
      omega
    have hst := run_storeCells (P := P) bb (i * sz + off) ty lo hi g2 (List.replicate n z) 0 c w g1 (by simp; omega) (fun q hq => by rw [(List.mem_replicate.1 hq).2]; exact hzc)
    rw [Nat.add_zero] at hst
    obtain ⟨k1, k2⟩ := good_store hs hσ hm g1 g2 g3 g4 g5 hr (cs := List.replicate n (constCell z)) (off := off) (by simpa using hl) (vs := List.replicate n z) (by simp)
      (fun k p q h1 h2 => by
        have hk : k < n := by have := (List.getElem?_eq_some_iff.1 h1).1; simpa using this
        simp [hk] at h1 h2
        subst h1 h2
        exact .pure (constCell_rep _ _ _))
    have hrun : (builtin .clear ts o.type kc #[Value.slice (some ⟨bb, i * sz + off, none⟩) n cap]).run P w = .ok (.value (.tuple #[])) (setBlk w bb (.cells (writeAt c (i * sz + off) (List.replicate n z)) ty (lo, hi))) := by
      simp only [builtin, Builtin.clear_, ht0, List.getElem?_toArray, List.getElem?_cons_zero, Sem.run_bind, run_underlying hu, Result.andThen]
      cases n with
      | zero =>
        have hw : setBlk w bb (.cells (writeAt c (i * sz + off) (List.replicate 0 z)) ty (lo, hi)) = w := by
          rw [List.replicate_zero] at hst ⊢
          simp only [storeCells, Sem.run_pure, Result.ok.injEq, true_and] at hst
          exact hst.symm
        rw [hw]; rfl
      | succ n =>
        simp only [Sem.run_bind, run_zeroValue hz, Result.andThen, hzcells, zeroCells_one]
        rw [hst]; rfl
    rw [hrun]
    exact ⟨μ, k1, .tup [] #[] rfl (fun i p y h => by simp at h), k2, MuExt.refl _⟩

end Go.Am
/- Regions as a run that can be reckoned. -/
namespace Go.Am
variable {Γ : Nat → Option Obj} {P : Program}

def binK (P : Program) (op : BinOp) (t : TypeId) (x y : Operand) (p q : PV) (K : PV → Prop) : Prop :=
  match toV p, toV q with
  | some (.agg a), some b => ∃ c, BinR P op t x y (.agg a) b c ∧ K (.v c)
  | some a, some b => match binS P op t x y a b with
    | some c => K (.v c)
    | none => False
  | _, _ => False

/-- A slice's element: its cells, its bytes, its zero cells. -/
def sfact (P : Program) (t : TypeId) : Option (Nat × Nat × List PV) :=
  match P.underlying t with
  | some (.slice e) => match tsz P e, tby P e, tzero P e with
    | some s, some b, some zs => if zs.length = s ∧ b ≠ 0 ∧ b ≤ 1024 then some (s, b, zs) else none
    | _, _, _ => none
  | _ => none

theorem sfact_spec {t : TypeId} {s b : Nat} {zs : List PV} (h : sfact P t = some (s, b, zs)) :
    ∃ e, P.underlying t = some (.slice e) ∧ tsz P e = some s ∧ tby P e = some b ∧ tzero P e = some zs ∧ zs.length = s ∧ b ≠ 0 ∧ b ≤ 1024 := by
  unfold sfact at h
  split at h
  · rename_i e hu
    split at h
    · rename_i s' b' zs' h1 h2 h3
      split at h
      · rename_i hc
        simp only [Option.some.injEq, Prod.mk.injEq] at h
        obtain ⟨rfl, rfl, rfl⟩ := h
        exact ⟨e, hu, h1, h2, h3, hc.1, hc.2.1, hc.2.2⟩
      · cases h
    · cases h
  · cases h

/-- .. its zero value, where that is one cell. -/
def zfact (P : Program) (t : TypeId) : Option Value :=
  match P.underlying t with
  | some (.slice e) => match (P.info? e).bind (·.zero) with
    | some z => if isCellV z = true then some z else none
    | none => none
  | _ => none

theorem zfact_spec {t : TypeId} {z : Value} (h : zfact P t = some z) : ∃ e, P.underlying t = some (.slice e) ∧ (P.info? e).bind (·.zero) = some z ∧ isCellV z = true := by
  unfold zfact at h
  split at h
  · rename_i e hu
    split at h
    · rename_i z' hz
      split at h
      · rename_i hc; cases h; exact ⟨e, hu, hz, hc⟩
      · cases h
    · cases h
  · cases h

def opK (Γ : Nat → Option Obj) (P : Program) (A : Nat → PV) (σ : Nat → Slot) (nx : Nat) (op : Op) (K : PV → List Nat → List (Nat × Slot) → Nat → Prop) : Prop :=
  match op with
  | .move x => K (ev A x) [] [] nx
  | .assign x => K (ev A x) [] [] nx
  | .pick c x y => match ev A c with
    | .v (.bool t) => K (cond t (ev A x) (ev A y)) [] [] nx
    | _ => False
  | .alloc t => match tzero P t with
    | some cs => σ nx = .fresh ∧ K (.op cs.length nx 0 0) [nx] [(nx, .live (.rows cs.length [cs]))] (nx + 1)
    | none => False
  | .box _ x => layable (ev A x) = true ∧ σ nx = .fresh ∧ K (.op (cellsOf (ev A x)).length nx 0 0) [nx] [(nx, .live (.rows (cellsOf (ev A x)).length [cellsOf (ev A x)]))] (nx + 1)
  | .build t parts => match tzero P t with
    | some zs => fieldsOK P t = true ∧ match fillA (plc P t) zs (parts.toList.map fun p => (p.1, ev A p.2)) with
      | some out => K (.agg out) [] [] nx
      | none => False
    | none => False
  | .load t x => match tsz P t, tag P t with
    | some n, some g => n ≠ 0 ∧ match ev A x with
      | .op sz b i off => match σ b with
        | .live (.rows sz' rs) => sz' = sz ∧ ∃ row, rs[i]? = some row ∧ off + n ≤ row.length ∧ K (ldV g row off n) [b] [] nx
        | _ => False
      | .ip cs => n ≤ cs.length ∧ K (ldV g cs 0 n) [] [] nx
      | _ => False
    | _, _ => False
  | .store t x y => match tsz P t, ev A x with
    | some n, .op sz b i off => match σ b with
      | .live (.rows sz' rs) => sz' = sz ∧ layable (ev A y) = true ∧ (cellsOf (ev A y)).all cellP = true ∧ (cellsOf (ev A y)).length = n ∧ ∃ row, rs[i]? = some row ∧ off + n ≤ row.length ∧
        K .any [b] [(b, .live (.rows sz (rs.set i (putRow row off (cellsOf (ev A y))))))] nx
      | _ => False
    | _, _ => False
  | .nilCheck x => match ev A x with
    | .op sz b i off => K (.op sz b i off) [] [] nx
    | .ip cs => K (.ip cs) [] [] nx
    | .fn (.func f) xs ys => K (.fn (.func f) xs ys) [] [] nx
    | _ => False
  | .binOp op t x y _ => binK P op t x y (ev A x) (ev A y) fun v => K v [] [] nx
  | .unOp op _ x => match toV (ev A x) with
    | some a => match sc P (Op.unary op a) with
      | some c => K (.v c) [] [] nx
      | none => False
    | none => False
  | .convert s d x => match toV (ev A x) with
    | some a => match sc P (convert s d a) with
      | some c => K (.v c) [] [] nx
      | none => False
    | none => False
  | .makeInterface t x => match P.underlying t with
    | some (.interface _) => False
    | some _ => K (.ifc t (ev A x)) [] [] nx
    | none => False
  | .makeFunc fn first caps => K (.fn fn (first.toList.map (ev A)) (caps.toList.map (ev A))) [] [] nx
  | .fieldAddr t x f => match fld P t f with
    | some (off, n, _) => n ≠ 0 ∧ match ev A x with
      | .op sz b i k => K (.op sz b i (k + off)) [] [] nx
      | .ip cs => K (.ip (cs.drop off)) [] [] nx
      | _ => False
    | none => False
  | .field t x f => match fld P t f, ev A x with
    | some (off, n, g), .agg cs => n ≠ 0 ∧ off + n ≤ cs.length ∧ K (if g then .agg ((cs.drop off).take n) else cs.getD off .any) [] [] nx
    | _, _ => False
  | .indexAddr t x ix => match ev A ix with
    | .v (.int _ i) => match ev A x with
      | .sl _ rows => match sel P t with
        | some s => 0 ≤ i ∧ ∃ row, rows[i.toNat]? = some row ∧ row.length = s ∧ K (.ip row) [] [] nx
        | none => False
      | .os sz b j n => match sel P t with
        | some s => s = sz ∧ 0 ≤ i ∧ i < n ∧ K (.op sz b (j + i.toNat) 0) [] [] nx
        | none => False
      | .oa sz b j off n => sel P t = some 1 ∧ 0 ≤ i ∧ i < n ∧ K (.op sz b j (off + i.toNat)) [] [] nx
      | .op sz b j off => match ael P t with
        | some (n, s) => 0 ≤ i ∧ i < n ∧ K (.op sz b j (off + i.toNat * s)) [] [] nx
        | none => False
      | .ip cs => match ael P t with
        | some (n, s) => 0 ≤ i ∧ i < n ∧ K (.ip (cs.drop (i.toNat * s))) [] [] nx
        | none => False
      | _ => False
    | _ => False
  | .index t x ix => match toV (ev A x), toV (ev A ix) with
    | some a, some b => match sc P (Instr.index t a b) with
      | some c => K (.v c) [] [] nx
      | none => False
    | _, _ => False
  | .extract x i => match ev A x with
    | .tup cs => match cs[i]? with
      | some p => K p [] [] nx
      | none => False
    | _ => False
  | .call { callee := .builtin .len, args := xs, argTypes := ts } => match xs.toList, ts[0]? with
    | [x], some t => (sel P t).isSome = true ∧ match lenP (ev A x) with
      | some n => K (.v (.int .i64 n)) [] [] nx
      | none => False
    | _, _ => False
  | .call { callee := .value f, args := xs, .. } => match ev A f with
    | .fn (.func g) first caps => CallK Γ P g (first ++ xs.toList.map (ev A) ++ caps) σ nx K .mk
    | _ => False
  | .buildSlice t len parts => match sfact P t with
    | some (s, _, zs) => len * s ≤ 16777216 ∧ len ≤ 140737488355328 ∧ match fillA (fun i => some (i * s, s)) (zfill zs len) (parts.toList.map fun p => (p.1, ev A p.2)) with
      | some out => if isPL out = true then K (.sl true (chunk s len out)) [] [] nx else σ nx = .fresh ∧ K (.os s nx 0 len) [nx] [(nx, .live (.rows s (chunk s len out)))] (nx + 1)
      | none => False
    | none => False
  | .slice t x lo hi mx => match ev A x with
    | .sl full rows => match sel P t, optI A lo, optI A hi, optI A mx with
      | some s, some lo', some hi', some mx' => bnds rows.length lo' hi' mx' (lo'.getD 0).toNat (hi'.getD rows.length).toNat ∧ (∀ r ∈ rows.head?, r.length = s) ∧
        K (.sl (mx'.isSome || full && hi'.isNone) ((rows.drop (lo'.getD 0).toNat).take ((hi'.getD rows.length).toNat - (lo'.getD 0).toNat))) [] [] nx
      | _, _, _, _ => False
    | .os sz b j n => match lo, optI A hi, optI A mx with
      | none, some hi', some mx' => sel P t = some sz ∧ bnds n none hi' mx' 0 (hi'.getD n).toNat ∧ K (.os sz b j (hi'.getD n).toNat) [] [] nx
      | _, _, _ => False
    | .op sz b j off => match lo, optI A hi, mx, ael P t with
      | none, some hi', none, some (n, 1) => n ≠ 0 ∧ n ≤ 1048576 ∧ bnds n none hi' none 0 (hi'.getD n).toNat ∧ K (.oa sz b j off (hi'.getD n).toNat) [] [] nx
      | _, _, _, _ => False
    | _ => False
  | .makeSlice t x y => match ev A x, ev A y, sfact P t with
    | .v (.int _ n), .v (.int _ m), some (s, _, zs) => m = n ∧ 0 ≤ n ∧ n ≤ 137438953472 ∧ σ nx = .fresh ∧ K (.os s nx 0 n.toNat) [nx] [(nx, .live (.rows s (List.replicate n.toNat zs)))] (nx + 1)
    | _, _, _ => False
  | .call { callee := .builtin .append, args := xs, argTypes := ts } => match xs.toList, ts[0]?, ts[1]? with
    | [x, y], some t, some t' => match sfact P t, sel P t', srcRows σ (ev A y) with
      | some (s, _, _), some _, some rows1 => (∀ r ∈ rows1, r.length = s) ∧ match ev A x with
        | .sl true rows => (∀ r ∈ rows, r.length = s) ∧ rows.length + rows1.length ≤ 68719476736 ∧ (rows = [] ∨ rows1 ≠ []) ∧ σ nx = .fresh ∧
          K (.os s nx 0 (rows.length + rows1.length)) (nx :: srcIds (ev A y)) [(nx, .live (.rows s (rows ++ rows1)))] (nx + 1)
        | .os s' b0 i0 n0 => match σ b0 with
          | .live (.rows s'' rows) => s' = s ∧ s'' = s ∧ i0 = 0 ∧ n0 = rows.length ∧ rows1.all (fun r => r.all cellP) = true ∧ rows.length + rows1.length ≤ 68719476736 ∧ σ nx = .fresh ∧
            K (.os s nx 0 (rows.length + rows1.length)) (nx :: b0 :: srcIds (ev A y)) [(nx, .live (.rows s (rows ++ rows1))), (b0, .dead)] (nx + 1)
          | _ => False
        | _ => False
      | _, _, _ => False
    | _, _, _ => False
  | .call { callee := .builtin .min, args := xs, argTypes := ts } => match vsOf (xs.toList.map (ev A)) with
    | some vs => match sc P (Builtin.min_ ts 0 vs.toArray) with
      | some c => K (.v c) [] [] nx
      | none => False
    | none => False
  | .call { callee := .builtin .max, args := xs, argTypes := ts } => match vsOf (xs.toList.map (ev A)) with
    | some vs => match sc P (Builtin.max_ ts 0 vs.toArray) with
      | some c => K (.v c) [] [] nx
      | none => False
    | none => False
  | .call { callee := .builtin .clear, args := xs, argTypes := ts } => match xs.toList, ts[0]? with
    | [x], some t => match zfact P t, ev A x with
      | some z, .oa sz b i off n => match σ b with
        | .live (.rows sz' rs) => sz' = sz ∧ ∃ row, rs[i]? = some row ∧ off + n ≤ row.length ∧ K (.tup []) [b] [(b, .live (.rows sz (rs.set i (putRow row off (List.replicate n (constCell z))))))] nx
        | _ => False
      | _, _ => False
    | _, _ => False
  | _ => False

theorem opK_ok {A : Nat → PV} {σ : Nat → Slot} {nx : Nat} {o : Oper} {K : PV → List Nat → List (Nat × Slot) → Nat → Prop} (h : opK Γ P A σ nx o.op K) :
    ∃ (r : Rec) (nx' : Nat), OpOK Γ P o A r ∧ (∀ p ∈ r.rd, σ p.1 = p.2) ∧ K r.val (r.rd.map (·.1)) r.wr nx' := by
  obtain ⟨dst, op, ty, pos, after, guard⟩ := o
  simp only at h
  unfold opK at h
  split at h
  · exact ⟨_, nx, ok_move rfl, by simp, h⟩
  · exact ⟨_, nx, ok_assign rfl, by simp, h⟩
  · split at h
    · rename_i hc; exact ⟨_, nx, ok_pick rfl hc, by simp, h⟩
    · exact h.elim
  · split at h
    · rename_i cs hz; exact ⟨_, nx + 1, ok_alloc (nx := nx) rfl hz, by simp [h.1], h.2⟩
    · exact h.elim
  · exact ⟨_, nx + 1, ok_box (nx := nx) rfl h.1, by simp [h.2.1], h.2.2⟩
  · split at h
    · rename_i zs hz
      obtain ⟨h1, h2⟩ := h
      split at h2
      · rename_i out ho; exact ⟨_, nx, ok_build rfl hz h1 ho, by simp, h2⟩
      · exact h2.elim
    · exact h.elim
  · split at h
    · rename_i n g hn hg
      obtain ⟨h0, h⟩ := h
      split at h
      · rename_i sz b i off hx
        split at h
        · rename_i sz' rs hσ
          obtain ⟨rfl, row, hr, hl, hK⟩ := h
          exact ⟨_, nx, ok_load_op rfl hx hn hg hr hl h0, by simp [hσ], hK⟩
        · exact h.elim
      · rename_i cs hx; exact ⟨_, nx, ok_load_ip rfl hx hn hg h.1 h0, by simp, h.2⟩
      · exact h.elim
    · exact h.elim
  · split at h
    · rename_i n sz b i off hn hx
      split at h
      · rename_i sz' rs hσ
        obtain ⟨rfl, hlay, hcell, hnl, row, hr, hl, hK⟩ := h
        exact ⟨_, nx, ok_store rfl hx rfl hlay hcell hn hnl hr hl, by simp [hσ], hK⟩
      · exact h.elim
    · exact h.elim
  · split at h
    · rename_i sz b i off hx; exact ⟨_, nx, ok_nilCheck rfl (.inl ⟨sz, b, i, off, hx⟩), by simp, by rw [hx]; exact h⟩
    · rename_i cs hx; exact ⟨_, nx, ok_nilCheck rfl (.inr (.inl ⟨cs, hx⟩)), by simp, by rw [hx]; exact h⟩
    · rename_i f xs ys hx; exact ⟨_, nx, ok_nilCheck rfl (.inr (.inr ⟨f, xs, ys, hx⟩)), by simp, by rw [hx]; exact h⟩
    · exact h.elim
  · unfold binK at h
    split at h
    · rename_i a b hx hy
      obtain ⟨c, hc, h⟩ := h
      exact ⟨_, nx, ok_binOp_run rfl hx hy hc, by simp, h⟩
    · rename_i a b _ hx hy
      split at h
      · rename_i c hc; exact ⟨_, nx, ok_binOp rfl hx hy hc, by simp, h⟩
      · exact h.elim
    · exact h.elim
  · split at h
    · rename_i a hx
      split at h
      · rename_i c hc; exact ⟨_, nx, ok_unOp rfl hx hc, by simp, h⟩
      · exact h.elim
    · exact h.elim
  · split at h
    · rename_i a hx
      split at h
      · rename_i c hc; exact ⟨_, nx, ok_convert rfl hx hc, by simp, h⟩
      · exact h.elim
    · exact h.elim
  · split at h
    · exact h.elim
    · rename_i d hno hd; exact ⟨_, nx, ok_makeInterface rfl hd (fun ms e => hno ms e), by simp, h⟩
    · exact h.elim
  · exact ⟨_, nx, ok_makeFunc rfl, by simp, h⟩
  · split at h
    · rename_i off n g hf
      obtain ⟨h0, h⟩ := h
      split at h
      · rename_i sz b i k hx; exact ⟨_, nx, ok_fieldAddr_op rfl hx hf h0, by simp, h⟩
      · rename_i cs hx; exact ⟨_, nx, ok_fieldAddr_ip rfl hx hf h0, by simp, h⟩
      · exact h.elim
    · exact h.elim
  · split at h
    · rename_i off n g cs hf hx; exact ⟨_, nx, ok_field rfl hx hf h.2.1 h.1, by simp, h.2.2⟩
    · exact h.elim
  · split at h
    · rename_i k i hi
      split at h
      · rename_i full rows hx
        split at h
        · rename_i s hs; obtain ⟨h0, row, hr, hl, hK⟩ := h; exact ⟨_, nx, ok_indexAddr_sl rfl hx hi hs h0 hr hl, by simp, hK⟩
        · exact h.elim
      · rename_i sz b j n hx
        split at h
        · rename_i s hs
          obtain ⟨rfl, h1, h2, h3⟩ := h
          exact ⟨_, nx, ok_indexAddr_os rfl hx hi hs h1 h2, by simp, h3⟩
        · exact h.elim
      · rename_i sz b j off n hx; exact ⟨_, nx, ok_indexAddr_oa rfl hx hi h.1 h.2.1 h.2.2.1, by simp, h.2.2.2⟩
      · rename_i sz b j off hx
        split at h
        · rename_i n s hs; exact ⟨_, nx, ok_indexAddr_op rfl hx hi hs h.1 h.2.1, by simp, h.2.2⟩
        · exact h.elim
      · rename_i cs hx
        split at h
        · rename_i n s hs; exact ⟨_, nx, ok_indexAddr_ip rfl hx hi hs h.1 h.2.1, by simp, h.2.2⟩
        · exact h.elim
      · exact h.elim
    · exact h.elim
  · split at h
    · rename_i a b hx hy
      split at h
      · rename_i c hc; exact ⟨_, nx, ok_index rfl hx hy hc, by simp, h⟩
      · exact h.elim
    · exact h.elim
  · split at h
    · rename_i cs hx
      split at h
      · rename_i p hp; exact ⟨_, nx, ok_extract rfl hx hp, by simp, h⟩
      · exact h.elim
    · exact h.elim
  · split at h
    · rename_i x t hxs ht
      have hxs := Array.toList_inj.1 (hxs.trans (show [x] = (#[x] : Array Operand).toList from rfl))
      subst hxs
      obtain ⟨hs, h⟩ := h
      obtain ⟨s, hs⟩ := Option.isSome_iff_exists.1 hs
      split at h
      · rename_i n hn; exact ⟨_, nx, ok_len rfl ht hs hn, by simp, h⟩
      · exact h.elim
    · exact h.elim
  · split at h
    · rename_i g first caps hf
      obtain ⟨r, nx', h1, h2, h3, _, h4⟩ := h
      exact ⟨r, nx', ok_call rfl hf h2 h1, h3, h4⟩
    · exact h.elim
  · split at h
    · rename_i s by' zs hsf
      obtain ⟨e, f1, f2, f3, f4, f5, f6, f7⟩ := sfact_spec hsf
      obtain ⟨g1, g2, h⟩ := h
      split at h
      · rename_i out ho
        split at h
        · rename_i hp; exact ⟨_, nx, ok_buildSlice rfl f1 f2 f4 f5 g1 ho hp g2, by simp, h⟩
        · exact ⟨_, nx + 1, ok_buildSlice_own (nx := nx) rfl f1 f2 f4 f5 g1 ho g2, by simp [h.1], h.2⟩
      · exact h.elim
    · exact h.elim
  · split at h
    · rename_i full rows hx
      split at h
      · rename_i s lo' hi' mx' h1 h2 h3 h4
        exact ⟨_, nx, ok_slice_sl rfl hx h1 h2 h3 h4 h.1 h.2.1, by simp, h.2.2⟩
      · exact h.elim
    · rename_i sz b j n hx
      split at h
      · rename_i hi' mx' h2 h3
        exact ⟨_, nx, ok_slice_os rfl hx h.1 h2 h3 h.2.1, by simp, h.2.2⟩
      · exact h.elim
    · rename_i sz b j off hx
      split at h
      · rename_i hi' n h2 h3
        exact ⟨_, nx, ok_slice_array rfl hx h3 h2 h.2.2.1 h.1 h.2.1, by simp, h.2.2.2⟩
      · exact h.elim
    · exact h.elim
  · split at h
    · rename_i k n k' m s by' zs hx hy hsf
      obtain ⟨rfl, g1, g2, g3, h⟩ := h
      obtain ⟨e, f1, f2, f3, f4, f5, f6, f7⟩ := sfact_spec hsf
      exact ⟨_, nx + 1, ok_makeSlice (nx := nx) rfl hx hy f1 f2 f3 f4 f5 g1 f7 g2, by simp [g3], h⟩
    · exact h.elim
  · split at h
    · rename_i x y t t' hxs ht ht'
      have hxs := Array.toList_inj.1 (hxs.trans (show [x, y] = (#[x, y] : Array Operand).toList from rfl))
      subst hxs
      split at h
      · rename_i s by' zs s2 rows1 hsf hsel hsrc
        obtain ⟨e, f1, f2, f3, f4, f5, f6, f7⟩ := sfact_spec hsf
        obtain ⟨e', f1', _⟩ := sel_spec hsel
        obtain ⟨g1, h⟩ := h
        split at h
        · rename_i rows hx
          obtain ⟨g2, g3, g4, g5, h⟩ := h
          refine ⟨_, nx + 1, ok_append_sl (nx := nx) (rd1 := (srcIds (ev A y)).map fun t => (t, σ t)) (σ0 := σ) rfl ht ht' f1 f1' f2 f3 f4 f5 hx hsrc (fun t ht => List.mem_map.2 ⟨t, ht, rfl⟩) g2 g1 f6 f7 g3 g4, ?_, ?_⟩
          · intro p hp
            rcases List.mem_cons.1 hp with rfl | hp
            · exact g5
            · obtain ⟨t, _, rfl⟩ := List.mem_map.1 hp; rfl
          · simpa [Function.comp_def] using h
        · rename_i s' b0 i0 n0 hx
          split at h
          · rename_i s'' rows hσ
            obtain ⟨rfl, rfl, rfl, rfl, g2, g3, g5, h⟩ := h
            refine ⟨_, nx + 1, ok_append_os (nx := nx) (rd1 := (srcIds (ev A y)).map fun t => (t, σ t)) (σ0 := σ) rfl ht ht' f1 f1' f2 f3 f4 f5 hx hσ rfl hsrc (fun t ht => List.mem_map.2 ⟨t, ht, rfl⟩) g1 g2 f6 f7 g3, ?_, ?_⟩
            · intro p hp
              rcases List.mem_cons.1 hp with rfl | hp
              · exact g5
              · rcases List.mem_cons.1 hp with rfl | hp
                · exact hσ
                · obtain ⟨t, _, rfl⟩ := List.mem_map.1 hp; rfl
            · simpa [Function.comp_def] using h
          · exact h.elim
        · exact h.elim
      · exact h.elim
    · exact h.elim
  · split at h
    · rename_i vs hv
      split at h
      · rename_i c hc; exact ⟨_, nx, ok_min rfl hv hc, by simp, h⟩
      · exact h.elim
    · exact h.elim
  · split at h
    · rename_i vs hv
      split at h
      · rename_i c hc; exact ⟨_, nx, ok_max rfl hv hc, by simp, h⟩
      · exact h.elim
    · exact h.elim
  · split at h
    · rename_i x t hxs ht
      have hxs := Array.toList_inj.1 (hxs.trans (show [x] = (#[x] : Array Operand).toList from rfl))
      subst hxs
      split at h
      · rename_i z sz b i off n hz hx
        obtain ⟨e, f1, f2, f3⟩ := zfact_spec hz
        split at h
        · rename_i sz' rs hσ
          obtain ⟨rfl, row, hr, hl, hK⟩ := h
          exact ⟨_, nx, ok_clear_oa rfl ht f1 f2 f3 hx hr hl, by simp [hσ], hK⟩
        · exact h.elim
      · exact h.elim
    · exact h.elim
  · exact h.elim

def wantedD (ds : List (Option Tmp)) (g : Option (Nat × Bool)) (A : Nat → PV) : Option Bool :=
  match g with
  | none => some true
  | some (j, want) => match ds[j]? with
    | some (some d) => match A d with
      | .v (.bool b) => some (b == want)
      | .v (.tuple _) => some false
      | _ => none
    | _ => none

def RW (Γ : Nat → Option Obj) (P : Program) (ds : List (Option Tmp)) : List Oper → St → Nat → List (List Nat × List Nat) → (St → Nat → List (List Nat × List Nat) → Prop) → Prop
  | [], st, nx, log, K => K st nx log
  | o :: rest, st, nx, log, K => match wantedD ds o.guard st.a with
    | none => False
    | some b => if b = true then opK Γ P st.a st.σ nx o.op fun v rd wr nx' => RW Γ P ds rest ⟨put st.a o.dst v, wrAll st.σ wr⟩ nx' (log ++ [(rd, wr.map (·.1))]) K
      else RW Γ P ds rest ⟨put st.a o.dst pU, st.σ⟩ nx (log ++ [([], [])]) K

theorem wantedA_D (ops : Array Oper) (o : Oper) (A : Nat → PV) : wantedA ops o A = wantedD (ops.toList.map (·.dst)) o.guard A := by
  unfold wantedA wantedD
  cases o.guard with
  | none => rfl
  | some gw =>
    obtain ⟨j, want⟩ := gw
    simp only [List.getElem?_map, Array.getElem?_toList]
    cases ops[j]? with
    | none => rfl
    | some o' => simp only [Option.bind_some, Option.map_some]; cases o'.dst <;> rfl

/-- All temporaries that are written lie in the frame. -/
def dstB (N : Nat) (l : List Oper) : Bool := l.all fun o => match o.dst with
  | some d => decide (d < N)
  | none => true

theorem RW_run {N : Nat} {ops : Array Oper} {K : St → Nat → List (List Nat × List Nat) → Prop} : ∀ (l : List Oper) (st : St) (nx : Nat) (log : List (List Nat × List Nat)), dstB N l = true →
    RW Γ P (ops.toList.map (·.dst)) l st nx log K → ∃ st' nx' log', K st' nx' log' ∧ log'.take log.length = log ∧ log'.length = log.length + l.length ∧
      ∀ fp : Nat → List Nat × List Nat, (∀ i, i < log'.length → fp i = log'.getD i ([], [])) → RunA Γ P N ops fp (fun s => s = st') l log.length st := by
  intro l
  induction l with
  | nil => intro st nx log _ h; exact ⟨st, nx, log, h, by simp, by simp, fun _ _ => rfl⟩
  | cons o rest ih =>
    intro st nx log hd h
    simp only [dstB, List.all_cons, Bool.and_eq_true] at hd
    have hd1 : ∀ d, o.dst = some d → d < N := fun d hd' => by have := hd.1; rw [hd'] at this; simpa using this
    unfold RW at h
    rw [← wantedA_D] at h
    split at h
    · exact h.elim
    · rename_i b hw
      split at h
      · rename_i hb
        subst hb
        obtain ⟨r, nx', hok, hrd, hK⟩ := opK_ok h
        obtain ⟨st', nx2, log', h1, h2, h3, h4⟩ := ih _ _ _ hd.2 hK
        refine ⟨st', nx2, log', h1, ?_, by simp at h3; simp; omega, fun fp hfp => ⟨.did r, ⟨hd1, hw, hok, hrd, ?_⟩, ?_⟩⟩
        · have := congrArg (List.take log.length) h2
          rw [List.take_take] at this
          simpa using this
        · have e : fp log.length = (r.rd.map (·.1), r.wr.map (·.1)) := by
            rw [hfp _ (by simp at h3; omega)]
            have := congrArg (fun l => l.getD log.length ([], [])) h2
            simp only [List.getD_eq_getElem?_getD, List.getElem?_take] at this
            simp at this
            simpa using this
          rw [e]
          exact ⟨fun p hp => List.mem_map.2 ⟨p, hp, rfl⟩, fun p hp => List.mem_map.2 ⟨p, hp, rfl⟩⟩
        · have := h4 fp hfp
          rw [List.length_append] at this
          exact this
      · rename_i hb
        have hb' : b = false := by simpa using hb
        subst hb'
        obtain ⟨st', nx2, log', h1, h2, h3, h4⟩ := ih _ _ _ hd.2 h
        refine ⟨st', nx2, log', h1, ?_, by simp at h3; simp; omega, fun fp hfp => ⟨.skip, ⟨hd1, hw⟩, ?_⟩⟩
        · have := congrArg (List.take log.length) h2
          rw [List.take_take] at this
          simpa using this
        · have := h4 fp hfp
          rw [List.length_append] at this
          exact this

theorem RunA.mono {N : Nat} {ops : Array Oper} {fp : Nat → List Nat × List Nat} {K K' : St → Prop} (h : ∀ s, K s → K' s) : ∀ (l : List Oper) (i : Nat) (st : St), RunA Γ P N ops fp K l i st → RunA Γ P N ops fp K' l i st
  | [], _, _, hr => h _ hr
  | _ :: rest, i, _, ⟨e, hv, hr⟩ => ⟨e, hv, RunA.mono h rest (i + 1) _ hr⟩

/-- A region whose order is the text's. -/
theorem AW_text {N pin nx : Nat} {id : Nat} {l : List Oper} {Q : Exit → St → Prop} {st : St} (hd : dstB N l = true)
    (h : RW Γ P (l.map (·.dst)) l st nx [] (fun st' _ _ => Q .normal st')) : AW Γ P N pin (.region id l.toArray false) Q st := by
  obtain ⟨st', nx', log', h1, _, h3, h4⟩ := RW_run (N := N) (ops := l.toArray) l st nx [] hd (by simpa using h)
  exact AW_region_text ((h4 (fun i => log'.getD i ([], [])) fun i _ => rfl).mono (fun s hs => by rw [hs]; exact h1) l 0 st)

/-- A region that draws its order. -/
theorem AW_draw {N pin nx : Nat} (hm : P.follows .mixedOrders = true) {id : Nat} {l : List Oper} {Q : Exit → St → Prop} {st : St} (hd : dstB N l = true) (hB : Region.lexB .any l.toArray = true)
    (h : RW Γ P (l.map (·.dst)) l st nx [] (fun st' _ log => fpB l.toArray log = true ∧ Q .normal st')) : AW Γ P N pin (.region id l.toArray true) Q st := by
  obtain ⟨st', nx', log', h1, _, h3, h4⟩ := RW_run (N := N) (ops := l.toArray) l st nx [] hd (by simpa using h)
  exact AW_region_any hm hB h1.1 ((h4 (fun i => log'.getD i ([], [])) fun i _ => rfl).mono (fun s hs => by rw [hs]; exact h1.2) l 0 st)

end Go.Am
