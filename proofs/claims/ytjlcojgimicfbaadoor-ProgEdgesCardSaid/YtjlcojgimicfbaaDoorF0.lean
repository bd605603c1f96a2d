/- Proof text of this claim, part 0: The abstract machine's values, states, and what they stand for in a world of the model.. Its conditions are those of the statement: the laid tables as the row lists them. -/
import Derived.Orders
import Derived.Still
import Derived.Laws.Cells
import Derived.Laws.Entries
import Derived.Tactics
/- The abstract machine's values, states, and what they stand for in a world of the model. -/
namespace Go.Am

inductive PV where
  | v (x : Value)
  | agg (cs : List PV)
  | tup (cs : List PV)
  | sl (full : Bool) (rows : List (List PV))
  | ip (cs : List PV)
  | op (sz t i off : Nat)
  | os (sz t i n : Nat)
  | oa (sz t i off n : Nat)
  | fn (f : Fn) (first caps : List PV)
  | ifc (ty : TypeId) (x : PV)
  | om (t : Nat)
  | any
  deriving Inhabited

inductive Blk where
  | rows (sz : Nat) (rs : List (List PV))
  | mib (es : List (Int × Bool))

inductive Slot where
  | fresh
  | dead
  | live (b : Blk)

inductive Mu where
  | no
  | ph
  | at (b : Nat)

/-- Immutable data in a world, outside of the blocks of O. -/
inductive PRep (w : World) (O : Nat → Prop) : PV → Value → Prop where
  | v (x : Value) : PRep w O (.v x) x
  | agg (cs : List PV) (ys : Array Value) (hl : cs.length = ys.size)
      (h : ∀ (i : Nat) p y, cs[i]? = some p → ys[i]? = some y → PRep w O p y) : PRep w O (.agg cs) (.agg ys)
  | tup (cs : List PV) (ys : Array Value) (hl : cs.length = ys.size)
      (h : ∀ (i : Nat) p y, cs[i]? = some p → ys[i]? = some y → PRep w O p y) : PRep w O (.tup cs) (.tuple ys)
  | nil (full : Bool) (a : Option Addr) (cap : Nat) (hf : full = true → cap = 0) : PRep w O (.sl full []) (.slice a 0 cap)
  | sl (full : Bool) (rows : List (List PV)) (sz b off cap : Nat) (vs : Nat → Nat → Value)
      (hsz : ∀ r ∈ rows, r.length = sz) (hcap : rows.length ≤ cap) (hlen : rows.length ≤ 140737488355328) (hf : full = true → cap = rows.length) (hO : ¬ O b) (hb : b < w.heap.size)
      (hc : ∀ i r j p, rows[i]? = some r → r[j]? = some p → w.cell? ⟨b, off + (i * sz + j), none⟩ = some (vs i j))
      (hr : ∀ (i : Nat) (r : List PV) (j : Nat) p, rows[i]? = some r → r[j]? = some p → PRep w O p (vs i j)) :
      PRep w O (.sl full rows) (.slice (some ⟨b, off, none⟩) rows.length cap)
  | ip (cs : List PV) (b off : Nat) (vs : Nat → Value) (hO : ¬ O b) (hb : b < w.heap.size)
      (hc : ∀ j p, cs[j]? = some p → w.cell? ⟨b, off + j, none⟩ = some (vs j))
      (hr : ∀ (j : Nat) p, cs[j]? = some p → PRep w O p (vs j)) : PRep w O (.ip cs) (.pointer (some ⟨b, off, none⟩))
  | fn (f : Fn) (first caps : List PV) (xs ys : Array Value) (hl : first.length = xs.size) (hl' : caps.length = ys.size)
      (h : ∀ (i : Nat) p y, first[i]? = some p → xs[i]? = some y → PRep w O p y)
      (h' : ∀ (i : Nat) p y, caps[i]? = some p → ys[i]? = some y → PRep w O p y) : PRep w O (.fn f first caps) (.func f xs ys)
  | ifc (ty : TypeId) (p : PV) (y : Value) (h : PRep w O p y) : PRep w O (.ifc ty p) (.iface ty y)

/-- What stands for a value: immutable data, or what leads into the blocks of the call's own. -/
inductive Rep (w : World) (O : Nat → Prop) (μ : Nat → Mu) : PV → Value → Prop where
  | pure {p : PV} {y : Value} (h : PRep w O p y) : Rep w O μ p y
  | any (y : Value) : Rep w O μ .any y
  | agg (cs : List PV) (ys : Array Value) (hl : cs.length = ys.size)
      (h : ∀ (i : Nat) p y, cs[i]? = some p → ys[i]? = some y → Rep w O μ p y) : Rep w O μ (.agg cs) (.agg ys)
  | tup (cs : List PV) (ys : Array Value) (hl : cs.length = ys.size)
      (h : ∀ (i : Nat) p y, cs[i]? = some p → ys[i]? = some y → Rep w O μ p y) : Rep w O μ (.tup cs) (.tuple ys)
  | fn (f : Fn) (first caps : List PV) (xs ys : Array Value) (hl : first.length = xs.size) (hl' : caps.length = ys.size)
      (h : ∀ (i : Nat) p y, first[i]? = some p → xs[i]? = some y → Rep w O μ p y)
      (h' : ∀ (i : Nat) p y, caps[i]? = some p → ys[i]? = some y → Rep w O μ p y) : Rep w O μ (.fn f first caps) (.func f xs ys)
  | ifc (ty : TypeId) (p : PV) (y : Value) (h : Rep w O μ p y) : Rep w O μ (.ifc ty p) (.iface ty y)
  | op (sz t i off b : Nat) (h : μ t = .at b) : Rep w O μ (.op sz t i off) (.pointer (some ⟨b, i * sz + off, none⟩))
  | os (sz t i n b cap : Nat) (h : μ t = .at b) (hn : n ≤ cap) (hlen : n ≤ 140737488355328) (hs : ∃ ty m, w.shape? b = some (ty, m) ∧ (i + cap) * sz ≤ m) :
      Rep w O μ (.os sz t i n) (.slice (some ⟨b, i * sz, none⟩) n cap)
  | ph (sz t : Nat) (a : Option Addr) (h : μ t = .ph) : Rep w O μ (.os sz t 0 0) (.slice a 0 0)
  | oa (sz t i off n b cap : Nat) (h : μ t = .at b) (hn : n ≤ cap) (hlen : n ≤ 140737488355328) : Rep w O μ (.oa sz t i off n) (.slice (some ⟨b, i * sz + off, none⟩) n cap)
  | om (t b : Nat) (h : μ t = .at b) : Rep w O μ (.om t) (.map (some b))

/-- A block of the call's own. -/
def BRep (w : World) (O : Nat → Prop) (μ : Nat → Mu) : Blk → Mu → Prop
  | .rows sz rs, .at b => ∃ c ty lo hi, w.heap[b]? = some (.cells c ty (lo, hi)) ∧ hi ≤ lo ∧ rs.length * sz ≤ c.size ∧ (∀ r ∈ rs, r.length = sz) ∧
      ∀ (i : Nat) (r : List PV) (j : Nat) p, rs[i]? = some r → r[j]? = some p → ∃ y, c[i * sz + j]? = some y ∧ Rep w O μ p y
  | .rows _ rs, .ph => rs = []
  | .mib es, .at b => ∃ ents clock, w.heap[b]? = some (.map ents clock) ∧
      ents.toList.map (fun e => (e.key, e.val)) = es.map fun p => (Value.int .i64 p.1, Value.bool p.2)
  | _, _ => False

/-- The blocks of the call's own. -/
def Own (μ : Nat → Mu) (σ : Nat → Slot) (b : Nat) : Prop := ∃ t B, σ t = .live B ∧ μ t = .at b

/-- .. and those that others own. -/
def OwnF (F : Nat → Prop) (μ : Nat → Mu) (σ : Nat → Slot) (b : Nat) : Prop := F b ∨ Own μ σ b

structure SRel (Γ : Nat → Option Obj) (F : Nat → Prop) (w : World) (μ : Nat → Mu) (σ : Nat → Slot) : Prop where
  fresh : ∀ t, σ t = .fresh → μ t = .no
  live : ∀ t B, σ t = .live B → BRep w (OwnF F μ σ) μ B (μ t)
  inj : ∀ t u B B' b, σ t = .live B → σ u = .live B' → μ t = .at b → μ u = .at b → t = u
  notF : ∀ t B b, σ t = .live B → μ t = .at b → ¬ F b
  ffin : ∀ b, F b → b < w.heap.size
  gam : ∀ b o, Γ b = some o → w.heap[b]? = some o ∧ ¬ OwnF F μ σ b

structure St where
  a : Nat → PV
  σ : Nat → Slot

structure Rel (Γ : Nat → Option Obj) (F : Nat → Prop) (N : Nat) (μ : Nat → Mu) (st : St) (a : Act) (w : World) : Prop where
  tsz : a.tmps.size = N
  dfs : a.defers = []
  tmp : ∀ t, Rep w (OwnF F μ st.σ) μ (st.a t) (a.tmps.getD t undef)
  sto : SRel Γ F w μ st.σ

/-- What a function of data is told of the world. -/
structure Fr (Γ : Nat → Option Obj) (F : Nat → Prop) (w : World) : Prop where
  ffin : ∀ b, F b → b < w.heap.size
  gam : ∀ b o, Γ b = some o → w.heap[b]? = some o ∧ ¬ F b

/-- What a piece of the run leaves alone. -/
structure Ext (w : World) (O : Nat → Prop) (w' : World) (O' : Nat → Prop) : Prop where
  size : w.heap.size ≤ w'.heap.size
  keep : ∀ b, b < w.heap.size → ¬ O b → w'.heap[b]? = w.heap[b]? ∧ ¬ O' b
  shape : ∀ b, b < w.heap.size → w'.shape? b = w.shape? b
  os : w'.os = w.os
  out : w'.output = w.output

theorem Ext.refl (w : World) (O : Nat → Prop) : Ext w O w O := ⟨Nat.le_refl _, fun _ _ h => ⟨rfl, h⟩, fun _ _ => rfl, rfl, rfl⟩

theorem Ext.trans {w w' w'' : World} {O O' O'' : Nat → Prop} (h : Ext w O w' O') (h' : Ext w' O' w'' O'') : Ext w O w'' O'' :=
  ⟨Nat.le_trans h.size h'.size, fun b hb hO => by
    have h1 := h.keep b hb hO
    have h2 := h'.keep b (Nat.lt_of_lt_of_le hb h.size) h1.2
    exact ⟨h2.1.trans h1.1, h2.2⟩, fun b hb => (h'.shape b (Nat.lt_of_lt_of_le hb h.size)).trans (h.shape b hb), h'.os.trans h.os, h'.out.trans h.out⟩

/-- What keeps immutable data. -/
def Keeps (w : World) (O : Nat → Prop) (w' : World) (O' : Nat → Prop) : Prop :=
  w.heap.size ≤ w'.heap.size ∧ ∀ b, b < w.heap.size → ¬ O b → w'.heap[b]? = w.heap[b]? ∧ ¬ O' b

theorem cell?_of_heap {w w' : World} {b : Nat} (h : w'.heap[b]? = w.heap[b]?) (off : Nat) : w'.cell? ⟨b, off, none⟩ = w.cell? ⟨b, off, none⟩ := by
  simp only [World.cell?, h]

theorem PRep.mono {w w' : World} {O O' : Nat → Prop} (hk : Keeps w O w' O') {p : PV} {y : Value} (h : PRep w O p y) : PRep w' O' p y := by
  induction h with
  | v x => exact .v x
  | agg cs ys hl _ ih => exact .agg cs ys hl ih
  | tup cs ys hl _ ih => exact .tup cs ys hl ih
  | nil full a cap hf => exact .nil full a cap hf
  | sl full rows sz b off cap vs hsz hcap hlen hf hO hb hc _ ih =>
    have hh := hk.2 b hb hO
    exact .sl full rows sz b off cap vs hsz hcap hlen hf hh.2 (Nat.lt_of_lt_of_le hb hk.1) (fun i r j p h1 h2 => (cell?_of_heap hh.1 _).trans (hc i r j p h1 h2)) ih
  | ip cs b off vs hO hb hc _ ih =>
    have hh := hk.2 b hb hO
    exact .ip cs b off vs hh.2 (Nat.lt_of_lt_of_le hb hk.1) (fun j p h1 => (cell?_of_heap hh.1 _).trans (hc j p h1)) ih
  | fn f first caps xs ys hl hl' _ _ ih ih' => exact .fn f first caps xs ys hl hl' ih ih'
  | ifc ty p y _ ih => exact .ifc ty p y ih

theorem Rep.mono {w w' : World} {O O' : Nat → Prop} {μ μ' : Nat → Mu} (hk : Keeps w O w' O') (hs : ∀ b, b < w.heap.size → w'.shape? b = w.shape? b)
    (hμ : ∀ t, μ t ≠ .no → μ' t = μ t) {p : PV} {y : Value} (h : Rep w O μ p y) : Rep w' O' μ' p y := by
  induction h with
  | pure h => exact .pure (h.mono hk)
  | any y => exact .any y
  | agg cs ys hl _ ih => exact .agg cs ys hl ih
  | tup cs ys hl _ ih => exact .tup cs ys hl ih
  | fn f first caps xs ys hl hl' _ _ ih ih' => exact .fn f first caps xs ys hl hl' ih ih'
  | ifc ty p y _ ih => exact .ifc ty p y ih
  | op sz t i off b h => exact .op sz t i off b ((hμ t (by rw [h]; simp)).trans h)
  | os sz t i n b cap h hn hlen hs' =>
    obtain ⟨ty, m, hsh, hle⟩ := hs'
    have hb : b < w.heap.size := by
      rcases Nat.lt_or_ge b w.heap.size with h' | h'
      · exact h'
      · simp [World.shape?, Array.getElem?_eq_none h'] at hsh
    exact .os sz t i n b cap ((hμ t (by rw [h]; simp)).trans h) hn hlen ⟨ty, m, (hs b hb).trans hsh, hle⟩
  | ph sz t a h => exact .ph sz t a ((hμ t (by rw [h]; simp)).trans h)
  | oa sz t i off n b cap h hn hlen => exact .oa sz t i off n b cap ((hμ t (by rw [h]; simp)).trans h) hn hlen
  | om t b h => exact .om t b ((hμ t (by rw [h]; simp)).trans h)

theorem Ext.keeps {F : Nat → Prop} {w w' : World} {O O' : Nat → Prop} (h : Ext w O w' O') : Keeps w (fun b => F b ∨ O b) w' (fun b => F b ∨ O' b) :=
  ⟨h.size, fun b hb hO => ⟨(h.keep b hb fun h' => hO (.inr h')).1, fun h' => h'.elim (fun hf => hO (.inl hf)) (h.keep b hb fun h' => hO (.inr h')).2⟩⟩

/-- Pointwise. -/
def Reps (w : World) (O : Nat → Prop) (μ : Nat → Mu) (ps : List PV) (ys : List Value) : Prop :=
  ps.length = ys.length ∧ ∀ (i : Nat) p y, ps[i]? = some p → ys[i]? = some y → Rep w O μ p y

def PReps (w : World) (O : Nat → Prop) (ps : List PV) (ys : List Value) : Prop :=
  ps.length = ys.length ∧ ∀ (i : Nat) p y, ps[i]? = some p → ys[i]? = some y → PRep w O p y

theorem Reps.nil {w : World} {O : Nat → Prop} {μ : Nat → Mu} : Reps w O μ [] [] := ⟨rfl, fun i p y h => by simp at h⟩
theorem Reps.cons {w : World} {O : Nat → Prop} {μ : Nat → Mu} {p : PV} {y : Value} {ps : List PV} {ys : List Value} (h : Rep w O μ p y) (hs : Reps w O μ ps ys) :
    Reps w O μ (p :: ps) (y :: ys) := ⟨by simp [hs.1], fun i q z h1 h2 => by
  cases i with
  | zero => simp at h1 h2; subst h1 h2; exact h
  | succ i => exact hs.2 i q z (by simpa using h1) (by simpa using h2)⟩
theorem Reps.of_cons {w : World} {O : Nat → Prop} {μ : Nat → Mu} {p : PV} {y : Value} {ps : List PV} {ys : List Value} (h : Reps w O μ (p :: ps) (y :: ys)) :
    Rep w O μ p y ∧ Reps w O μ ps ys :=
  ⟨h.2 0 p y rfl rfl, by have := h.1; simpa using this, fun i q z h1 h2 => h.2 (i + 1) q z (by simpa using h1) (by simpa using h2)⟩
theorem Reps.append {w : World} {O : Nat → Prop} {μ : Nat → Mu} {ps qs : List PV} {ys zs : List Value} (h : Reps w O μ ps ys) (h' : Reps w O μ qs zs) : Reps w O μ (ps ++ qs) (ys ++ zs) := by
  induction ps generalizing ys with
  | nil => cases ys with
    | nil => exact h'
    | cons y ys => exact absurd h.1 (by simp)
  | cons p ps ih => cases ys with
    | nil => exact absurd h.1 (by simp)
    | cons y ys => exact .cons h.of_cons.1 (ih h.of_cons.2)
theorem Reps.mono {w w' : World} {O O' : Nat → Prop} {μ μ' : Nat → Mu} (hk : Keeps w O w' O') (hs : ∀ b, b < w.heap.size → w'.shape? b = w.shape? b)
    (hμ : ∀ t, μ t ≠ .no → μ' t = μ t) {p : List PV} {y : List Value} (h : Reps w O μ p y) : Reps w' O' μ' p y :=
  ⟨h.1, fun i p y h1 h2 => (h.2 i p y h1 h2).mono hk hs hμ⟩
theorem PReps.reps {w : World} {O : Nat → Prop} {μ : Nat → Mu} {p : List PV} {y : List Value} (h : PReps w O p y) : Reps w O μ p y :=
  ⟨h.1, fun i p y h1 h2 => .pure (h.2 i p y h1 h2)⟩

end Go.Am
/- Steps of the abstract machine, and regions: one run in the text's order serves every order that the region's edges allow, where no two unordered steps touch one block. -/
namespace Go.Am
variable {Γ : Nat → Option Obj}

def upd {α : Type} (f : Nat → α) (k : Nat) (x : α) : Nat → α := fun n => if n = k then x else f n

theorem upd_same {α : Type} (f : Nat → α) (k : Nat) (x : α) : upd f k x k = x := by simp [upd]
theorem upd_ne {α : Type} (f : Nat → α) {k n : Nat} (x : α) (h : n ≠ k) : upd f k x n = f n := by simp [upd, h]
theorem upd_comm {α : Type} (f : Nat → α) {k l : Nat} (x y : α) (h : k ≠ l) : upd (upd f k x) l y = upd (upd f l y) k x := by
  funext n
  simp only [upd]
  by_cases h1 : n = k
  · subst h1; simp [h]
  · simp [h1]

structure Rec where
  val : PV
  rd : List (Nat × Slot)
  wr : List (Nat × Slot)

def wrAll (σ : Nat → Slot) : List (Nat × Slot) → Nat → Slot
  | [] => σ
  | p :: r => upd (wrAll σ r) p.1 p.2

theorem wrAll_out (σ : Nat → Slot) (wr : List (Nat × Slot)) (t : Nat) (h : ∀ p ∈ wr, p.1 ≠ t) : wrAll σ wr t = σ t := by
  induction wr with
  | nil => rfl
  | cons p r ih => simp only [wrAll]; rw [upd_ne _ _ (fun e => h p (List.mem_cons_self ..) e.symm)]; exact ih fun q hq => h q (List.mem_cons_of_mem _ hq)
theorem wrAll_in (σ σ' : Nat → Slot) (wr : List (Nat × Slot)) (t : Nat) (h : ∃ p ∈ wr, p.1 = t) : wrAll σ wr t = wrAll σ' wr t := by
  induction wr with
  | nil => obtain ⟨p, hp, _⟩ := h; cases hp
  | cons p r ih =>
    simp only [wrAll, upd]
    by_cases hp : t = p.1
    · simp [hp]
    · simp only [hp, if_false]
      obtain ⟨q, hq, he⟩ := h
      rcases List.mem_cons.1 hq with rfl | hq
      · exact absurd he.symm hp
      · exact ih ⟨q, hq, he⟩
theorem wrAll_comm (σ : Nat → Slot) (x y : List (Nat × Slot)) (h : ∀ p ∈ x, ∀ q ∈ y, p.1 ≠ q.1) : wrAll (wrAll σ x) y = wrAll (wrAll σ y) x := by
  funext t
  by_cases hx : ∃ p ∈ x, p.1 = t
  · have hy : ∀ q ∈ y, q.1 ≠ t := fun q hq e => by obtain ⟨p, hp, e'⟩ := hx; exact h p hp q hq (e'.trans e.symm)
    rw [wrAll_out _ y t hy]; exact wrAll_in _ _ x t hx
  · have hx' : ∀ p ∈ x, p.1 ≠ t := fun p hp e => hx ⟨p, hp, e⟩
    rw [wrAll_out _ x t hx']
    by_cases hy : ∃ q ∈ y, q.1 = t
    · exact wrAll_in _ _ y t hy
    · have hy' : ∀ q ∈ y, q.1 ≠ t := fun q hq e => hy ⟨q, hq, e⟩
      rw [wrAll_out _ y t hy', wrAll_out _ y t hy', wrAll_out _ x t hx']

def MuExt (μ μ' : Nat → Mu) : Prop := ∀ t, μ t ≠ .no → μ' t = μ t
theorem MuExt.refl (μ : Nat → Mu) : MuExt μ μ := fun _ _ => rfl
theorem MuExt.trans {μ μ' μ'' : Nat → Mu} (h : MuExt μ μ') (h' : MuExt μ' μ'') : MuExt μ μ'' := fun t ht => by
  have h1 := h t ht
  exact (h' t (by rw [h1]; exact ht)).trans h1

def Good (Γ : Nat → Option Obj) (F : Nat → Prop) (μ : Nat → Mu) (σ : Nat → Slot) (w : World) (r : Rec) (y : Value) (w' : World) : Prop :=
  ∃ μ', SRel Γ F w' μ' (wrAll σ r.wr) ∧ Rep w' (OwnF F μ' (wrAll σ r.wr)) μ' r.val y ∧ Ext w (Own μ σ) w' (Own μ' (wrAll σ r.wr)) ∧ MuExt μ μ'

def OpOK (Γ : Nat → Option Obj) (P : Program) (o : Oper) (A : Nat → PV) (r : Rec) : Prop :=
  ∀ (F : Nat → Prop) (μ : Nat → Mu) (σ : Nat → Slot) (a : Act) (w : World), SRel Γ F w μ σ →
    (∀ t, Operand.tmp t ∈ o.op.operands.toList → Rep w (OwnF F μ σ) μ (A t) (a.tmps.getD t undef)) → (∀ p ∈ r.rd, σ p.1 = p.2) →
    match (execOp a.eval o).run P w with
    | .ok (.value y) w' => Good Γ F μ σ w r y w'
    | .ok .skip w' => Good Γ F μ σ w r undef w'
    | .ok (.enter f args) w' => Calls P f args w' fun e w'' => ∃ y, e = .returned y ∧ Good Γ F μ σ w r y w''
    | _ => False

theorem OpOK.congr {P : Program} {o : Oper} {A A' : Nat → PV} {r : Rec} (h : OpOK Γ P o A r) (hA : ∀ t, Operand.tmp t ∈ o.op.operands.toList → A t = A' t) : OpOK Γ P o A' r :=
  fun F μ σ a w hs ht hr => h F μ σ a w hs (fun t hm => by rw [hA t hm]; exact ht t hm) hr

def put (A : Nat → PV) (dst : Option Tmp) (p : PV) : Nat → PV :=
  match dst with
  | some d => upd A d p
  | none => A

theorem put_comm (A : Nat → PV) {x y : Option Tmp} (v u : PV) (h : ∀ d, x = some d → y ≠ some d) : put (put A x v) y u = put (put A y u) x v := by
  cases x with
  | none => rfl
  | some d => cases y with
    | none => rfl
    | some e => exact upd_comm A v u (fun he => h d rfl (by rw [he]))

/-- One step: an operation that is carried out, or one whose guard says no. -/
inductive Ev where
  | skip
  | did (r : Rec)

/-- What a step that is not carried out leaves. -/
abbrev pU : PV := .v (.tuple #[])

def stepE (st : St) (o : Oper) : Ev → St
  | .skip => { st with a := put st.a o.dst pU }
  | .did r => { a := put st.a o.dst r.val, σ := wrAll st.σ r.wr }

def wantedA (ops : Array Oper) (o : Oper) (A : Nat → PV) : Option Bool :=
  match o.guard with
  | none => some true
  | some (j, want) =>
    match (ops[j]?).bind (·.dst) with
    | some d => match A d with
      | .v (.bool b) => some (b == want)
      | .v (.tuple _) => some false
      | _ => none
    | none => none

def Valid (Γ : Nat → Option Obj) (P : Program) (N : Nat) (ops : Array Oper) (fp : List Nat × List Nat) (o : Oper) (e : Ev) (st : St) : Prop :=
  (∀ d, o.dst = some d → d < N) ∧
  match e with
  | .skip => wantedA ops o st.a = some false
  | .did r => wantedA ops o st.a = some true ∧ OpOK Γ P o st.a r ∧ (∀ p ∈ r.rd, st.σ p.1 = p.2) ∧ (∀ p ∈ r.rd, p.1 ∈ fp.1) ∧ ∀ p ∈ r.wr, p.1 ∈ fp.2

def disj (x y : List Nat) : Bool := x.all fun t => !y.contains t
theorem disj_spec {x y : List Nat} (h : disj x y = true) {t : Nat} (hx : t ∈ x) : t ∉ y := by
  simp only [disj, List.all_eq_true, Bool.not_eq_true', List.contains_eq_mem, decide_eq_false_iff_not] at h
  exact h t hx

/-- Two steps that touch no block of each other's writes. -/
def FpOK (x y : List Nat × List Nat) : Prop := disj x.2 y.1 = true ∧ disj y.2 x.1 = true ∧ disj x.2 y.2 = true

theorem wantedA_put {ops : Array Oper} (o : Oper) (A : Nat → PV) (dst : Option Tmp) (v : PV) (h : ∀ d, dst = some d → d ∉ o.looksAt ops) :
    wantedA ops o (put A dst v) = wantedA ops o A := by
  cases dst with
  | none => rfl
  | some d =>
    unfold wantedA
    cases hg : o.guard with
    | none => rfl
    | some gw =>
      obtain ⟨g, want⟩ := gw
      simp only
      cases ht : (ops[g]?).bind (·.dst) with
      | none => rfl
      | some t =>
        have hne : t ≠ d := fun e => h d rfl (by subst e; simp [Oper.looksAt, hg, ht])
        simp only [put, upd_ne _ _ hne]

theorem put_out (A : Nat → PV) (dst : Option Tmp) (v : PV) (t : Nat) (h : ∀ d, dst = some d → d ≠ t) : put A dst v t = A t := by
  cases dst with
  | none => rfl
  | some d => exact upd_ne _ _ (fun e => h d rfl e.symm)

theorem looksAt_operand {ops : Array Oper} {o : Oper} {t : Nat} (h : Operand.tmp t ∈ o.op.operands.toList) : t ∈ o.looksAt ops :=
  List.mem_append_left _ (List.mem_filterMap.2 ⟨.tmp t, h, rfl⟩)

/-- A step of another operation, apart in temporaries and in blocks, makes no difference. -/
theorem valid_step {P : Program} {N : Nat} {ops : Array Oper} {x y : List Nat × List Nat} {oi oj : Oper} {ei ej : Ev} {st : St}
    (hap : ∀ d, oi.dst = some d → d ∉ oj.looksAt ops) (hfp : FpOK x y) (hvi : ∀ r, ei = .did r → ∀ p ∈ r.wr, p.1 ∈ x.2) :
    Valid Γ P N ops y oj ej (stepE st oi ei) ↔ Valid Γ P N ops y oj ej st := by
  have key : ∀ (A : Nat → PV) (v : PV), wantedA ops oj (put A oi.dst v) = wantedA ops oj A := fun A v => wantedA_put oj A oi.dst v hap
  have keyA : ∀ (A : Nat → PV) (v : PV) (r : Rec), OpOK Γ P oj (put A oi.dst v) r ↔ OpOK Γ P oj A r := fun A v r => by
    have e : ∀ t, Operand.tmp t ∈ oj.op.operands.toList → put A oi.dst v t = A t := fun t ht =>
      put_out A oi.dst v t fun d hd e => hap d hd (by subst e; exact looksAt_operand ht)
    exact ⟨fun h => h.congr e, fun h => h.congr fun t ht => (e t ht).symm⟩
  unfold Valid
  refine and_congr_right fun _ => ?_
  cases ei with
  | skip =>
    cases ej with
    | skip => simp only [stepE, key]
    | did r => simp only [stepE, key, keyA]
  | did ri =>
    cases ej with
    | skip => simp only [stepE, key]
    | did r =>
      simp only [stepE, key, keyA]
      refine and_congr_right fun _ => and_congr_right fun _ => ?_
      constructor
      · rintro ⟨h1, h2, h3⟩
        refine ⟨fun p hp => ?_, h2, h3⟩
        rw [← h1 p hp]
        exact (wrAll_out _ _ _ fun q hq e => disj_spec hfp.1 (hvi ri rfl q hq) (by rw [e]; exact h2 p hp)).symm
      · rintro ⟨h1, h2, h3⟩
        refine ⟨fun p hp => ?_, h2, h3⟩
        rw [← h1 p hp]
        exact wrAll_out _ _ _ fun q hq e => disj_spec hfp.1 (hvi ri rfl q hq) (by rw [e]; exact h2 p hp)

theorem stepE_comm {x y : List Nat × List Nat} {oi oj : Oper} {ei ej : Ev} {st : St} (h2 : ∀ d, oi.dst = some d → oj.dst ≠ some d) (hfp : FpOK x y)
    (hvi : ∀ r, ei = .did r → ∀ p ∈ r.wr, p.1 ∈ x.2) (hvj : ∀ r, ej = .did r → ∀ p ∈ r.wr, p.1 ∈ y.2) :
    stepE (stepE st oi ei) oj ej = stepE (stepE st oj ej) oi ei := by
  have hw : ∀ ri rj, ei = .did ri → ej = .did rj → wrAll (wrAll st.σ ri.wr) rj.wr = wrAll (wrAll st.σ rj.wr) ri.wr := fun ri rj hi hj =>
    wrAll_comm _ _ _ fun p hp q hq e => disj_spec hfp.2.2 (hvi ri hi p hp) (by rw [e]; exact hvj rj hj q hq)
  cases ei with
  | skip => cases ej with
    | skip => simp only [stepE, put_comm _ _ _ h2]
    | did rj => simp only [stepE, put_comm _ _ _ h2]
  | did ri => cases ej with
    | skip => simp only [stepE, put_comm _ _ _ h2]
    | did rj => simp only [stepE, put_comm _ _ _ h2, hw ri rj rfl rfl]

/-! ### From the abstract step to the model's -/

theorem Rep.of_v {w : World} {O : Nat → Prop} {μ : Nat → Mu} {x y : Value} (h : Rep w O μ (.v x) y) : y = x := by
  cases h with
  | pure h => cases h; rfl

theorem Rel.getD_put {N : Nat} {a : Act} (hsz : a.tmps.size = N) {dst : Option Tmp} (hd : ∀ d, dst = some d → d < N) (y : Value) (A : Nat → PV) (p : PV) {R : PV → Value → Prop}
    (h : ∀ t, R (A t) (a.tmps.getD t undef)) (hp : R p y) (t : Nat) : R (put A dst p t) ((a.put dst y).tmps.getD t undef) := by
  cases dst with
  | none => exact h t
  | some d =>
    have hd' := hd d rfl
    by_cases e : t = d
    · subst e
      have : (a.put (some t) y).tmps.getD t undef = y := by simp [Act.put, Array.getD, hsz, hd']
      rw [this]; simp only [put, upd_same]; exact hp
    · have h1 : (a.put (some d) y).tmps.getD t undef = a.tmps.getD t undef := by
        simp only [Act.put, Array.getD_eq_getD_getElem?]
        rw [Array.getElem?_setIfInBounds_ne (Ne.symm e)]
      rw [h1]; simp only [put, upd_ne _ _ e]; exact h t

theorem wanted_of {F : Nat → Prop} {N : Nat} {μ : Nat → Mu} {st : St} {a : Act} {w : World} (h : Rel Γ F N μ st a w) {ops : Array Oper} {o : Oper} {b : Bool}
    (hw : wantedA ops o st.a = some b) : Region.wanted o (yielded ops a.tmps) = b := by
  unfold wantedA at hw
  unfold Region.wanted
  cases hg : o.guard with
  | none => simp only [hg] at hw ⊢; exact Option.some.inj hw
  | some gw =>
    obtain ⟨j, want⟩ := gw
    simp only [hg] at hw ⊢
    unfold yielded
    cases ht : (ops[j]?).bind (·.dst) with
    | none => simp [ht] at hw
    | some d =>
      simp only [ht] at hw
      have h1 := h.tmp d
      cases hA : st.a d with
      | v x =>
        rw [hA] at h1 hw
        cases x with
        | bool b' =>
          simp only at hw
          have h2 := h1.of_v
          have h3 : a.tmps[d]? = some (.bool b') := by
            rw [Array.getD_eq_getD_getElem?] at h2
            cases hq : a.tmps[d]? with
            | none => rw [hq] at h2; simp [undef] at h2
            | some z => rw [hq] at h2; simpa using h2
          simp only [Option.bind_some, h3]
          simpa using hw
        | tuple ys =>
          simp only [Option.some.injEq] at hw
          subst hw
          have h2 := h1.of_v
          rw [Array.getD_eq_getD_getElem?] at h2
          cases hq : a.tmps[d]? with
          | none => simp [hq]
          | some z =>
            rw [hq] at h2
            simp only [Option.getD_some] at h2
            subst h2
            simp [hq]
        | _ => simp at hw
      | _ => rw [hA] at hw; simp at hw

theorem Own.sub {F : Nat → Prop} {μ : Nat → Mu} {σ : Nat → Slot} {b : Nat} (h : Own μ σ b) : OwnF F μ σ b := .inr h

theorem step_wp {P : Program} {F : Nat → Prop} {N : Nat} {μ : Nat → Mu} {st : St} {a : Act} {w : World} {ops : Array Oper} {fp : List Nat × List Nat} {o : Oper} {e : Ev}
    (h : Rel Γ F N μ st a w) (hv : Valid Γ P N ops fp o e st) {K : Act → World → Prop} {Q : Exit → Act → World → Prop}
    (hK : ∀ a' w' μ', Rel Γ F N μ' (stepE st o e) a' w' → Ext w (Own μ st.σ) w' (Own μ' (stepE st o e).σ) → MuExt μ μ' → K a' w') :
    if Region.wanted o (yielded ops a.tmps) then o.wp P a w K Q ∨ (o.asks P a w ∧ LetsOut Q) else K (a.put o.dst undef) w := by
  obtain ⟨hd, hv⟩ := hv
  have size_put : ∀ y, (a.put o.dst y).tmps.size = N := fun y => by cases hq : o.dst <;> simp [Act.put, h.tsz]
  have dfs_put : ∀ y, (a.put o.dst y).defers = [] := fun y => by cases hq : o.dst <;> simp [Act.put, h.dfs]
  cases e with
  | skip =>
    simp only at hv
    rw [if_neg (by rw [wanted_of h hv]; simp)]
    refine hK _ _ μ ⟨size_put _, dfs_put _, fun t => ?_, h.sto⟩ (Ext.refl _ _) (MuExt.refl _)
    exact Rel.getD_put h.tsz hd undef st.a pU (R := Rep w (OwnF F μ st.σ) μ) h.tmp (.pure (.v _)) t
  | did r =>
    obtain ⟨hw, hok, hrd, _, _⟩ := hv
    rw [if_pos (wanted_of h hw)]
    refine .inl ?_
    have h1 := hok F μ st.σ a w h.sto (fun t _ => h.tmp t) hrd
    have fin : ∀ y w', Good Γ F μ st.σ w r y w' → K (a.put o.dst y) w' := by
      rintro y w' ⟨μ', hs, hr, hx, hm⟩
      refine hK _ _ μ' ⟨size_put _, dfs_put _, fun t => ?_, hs⟩ hx hm
      exact Rel.getD_put h.tsz hd y st.a r.val (R := Rep w' (OwnF F μ' (wrAll st.σ r.wr)) μ') (fun t => (h.tmp t).mono (Ext.keeps hx) hx.shape hm) hr t
    unfold Oper.wp
    generalize (execOp a.eval o).run P w = res at h1
    cases res with
    | ok n w' =>
      cases n <;> simp only at h1 <;> simp only [Oper.upon]
      case value y => exact fin _ _ h1
      case skip => exact fin _ _ h1
      case enter f args =>
        refine h1.mono ?_
        rintro e w'' ⟨y, rfl, hg⟩
        exact fin _ _ hg
    | halt x w' => simp only at h1

end Go.Am
/- A region of the abstract machine: in the text's order, or in any order. -/
namespace Go.Am
variable {Γ : Nat → Option Obj}

section
variable {P : Program} {N : Nat} {ops : Array Oper} {fp : Nat → List Nat × List Nat} {md : Region.Mode}

def RunA (Γ : Nat → Option Obj) (P : Program) (N : Nat) (ops : Array Oper) (fp : Nat → List Nat × List Nat) (K : St → Prop) : List Oper → Nat → St → Prop
  | [], _, st => K st
  | o :: rest, i, st => ∃ e, Valid Γ P N ops (fp i) o e st ∧ RunA Γ P N ops fp K rest (i + 1) (stepE st o e)

theorem wpList_of_run {K : St → Prop} {Q : Exit → Act → World → Prop} {F : Nat → Prop} : ∀ (l : List Oper) (i : Nat) (st : St) (μ : Nat → Mu) (a : Act) (w : World),
    Rel Γ F N μ st a w → RunA Γ P N ops fp K l i st →
    (∀ st' a' w' μ', K st' → Rel Γ F N μ' st' a' w' → Ext w (Own μ st.σ) w' (Own μ' st'.σ) → MuExt μ μ' → Q .normal a' w') → wpList P ops Q l a w
  | [], _, st, μ, a, w, hr, h, hQ => hQ st a w μ h hr (Ext.refl _ _) (MuExt.refl _)
  | o :: rest, i, st, μ, a, w, hr, h, hQ => by
    obtain ⟨e, hv, hrest⟩ := h
    unfold wpList
    exact step_wp hr hv fun a' w' μ' hr' hx hm => wpList_of_run rest (i + 1) _ μ' a' w' hr' hrest fun st'' a'' w'' μ'' hk hr'' hx' hm' =>
      hQ st'' a'' w'' μ'' hk hr'' (hx.trans hx') (hm.trans hm')

def WAny (Γ : Nat → Option Obj) (P : Program) (N : Nat) (md : Region.Mode) (ops : Array Oper) (fp : Nat → List Nat × List Nat) (K : St → Prop) : Nat → Array Bool → St → Prop
  | 0, listed, st => Region.ready md ops listed = [] ∧ K st
  | fuel + 1, listed, st => (Region.ready md ops listed = [] → K st) ∧
    ∀ i ∈ Region.ready md ops listed, ∀ o, ops[i]? = some o → ∃ e, Valid Γ P N ops (fp i) o e st ∧ WAny Γ P N md ops fp K fuel (listed.setIfInBounds i true) (stepE st o e)

theorem wpAny_of_WAny {K : St → Prop} {Q : Exit → Act → World → Prop} {F : Nat → Prop} : ∀ (fuel : Nat) (listed : Array Bool) (st : St) (μ : Nat → Mu) (a : Act) (w : World),
    Rel Γ F N μ st a w → WAny Γ P N md ops fp K fuel listed st →
    (∀ st' a' w' μ', K st' → Rel Γ F N μ' st' a' w' → Ext w (Own μ st.σ) w' (Own μ' st'.σ) → MuExt μ μ' → Q .normal a' w') → wpAny P md ops Q fuel listed a w
  | 0, _, st, μ, a, w, hr, h, hQ => ⟨h.1, hQ st a w μ h.2 hr (Ext.refl _ _) (MuExt.refl _)⟩
  | fuel + 1, listed, st, μ, a, w, hr, h, hQ => ⟨fun h0 => hQ st a w μ (h.1 h0) hr (Ext.refl _ _) (MuExt.refl _), fun i hi => by
      obtain ⟨_, o, ho, _⟩ := mem_ready.1 hi
      obtain ⟨e, hv, hrest⟩ := h.2 i hi o ho
      unfold wpOp
      simp only [ho]
      exact step_wp hr hv fun a' w' μ' hr' hx hm => wpAny_of_WAny fuel _ _ μ' a' w' hr' hrest fun st'' a'' w'' μ'' hk hr'' hx' hm' =>
        hQ st'' a'' w'' μ'' hk hr'' (hx.trans hx') (hm.trans hm')⟩

theorem disj_symm {x y : List Nat} (h : disj x y = true) : disj y x = true := by
  simp only [disj, List.all_eq_true, Bool.not_eq_true', List.contains_eq_mem, decide_eq_false_iff_not] at *
  exact fun t ht hx => h t hx ht
theorem FpOK.symm {x y : List Nat × List Nat} (h : FpOK x y) : FpOK y x := ⟨h.2.1, h.1, disj_symm h.2.2⟩

theorem Valid.wr {o : Oper} {e : Ev} {st : St} {x : List Nat × List Nat} (h : Valid Γ P N ops x o e st) : ∀ r, e = .did r → ∀ p ∈ r.wr, p.1 ∈ x.2 := by
  rintro r rfl
  exact h.2.2.2.2.2

theorem WAny_first {K : St → Prop} {i : Nat} {oi : Oper} {ei : Ev} (hi : ops[i]? = some oi) :
    ∀ (fuel : Nat) (listed : Array Bool) (st : St),
      (∀ j oj, ops[j]? = some oj → j ≠ i → listed.getD j true = false → (∀ e ∈ oj.after, Region.binds md e = true → e.on ≠ i) → oi.apart ops oj = true ∧ FpOK (fp i) (fp j)) →
      i ∈ Region.ready md ops listed → Valid Γ P N ops (fp i) oi ei st →
      WAny Γ P N md ops fp K fuel (listed.setIfInBounds i true) (stepE st oi ei) → WAny Γ P N md ops fp K (fuel + 1) listed st := by
  intro fuel
  induction fuel with
  | zero =>
    intro listed st _ hr hv H
    refine ⟨fun h => (by rw [h] at hr; cases hr), fun j hj o ho => ?_⟩
    by_cases hji : j = i
    · subst hji
      obtain rfl : oi = o := Option.some.inj (hi.symm.trans ho)
      exact ⟨ei, hv, H⟩
    · have := ready_mono hj hji
      rw [H.1] at this
      cases this
  | succ fuel ih =>
    intro listed st hfree hr hv H
    refine ⟨fun h => (by rw [h] at hr; cases hr), fun j hj o ho => ?_⟩
    by_cases hji : j = i
    · subst hji
      obtain rfl : oi = o := Option.some.inj (hi.symm.trans ho)
      exact ⟨ei, hv, H⟩
    · obtain ⟨ej, hvj, H1⟩ := H.2 j (ready_mono hj hji) o ho
      obtain ⟨hjun, oj, hoj, hall⟩ := mem_ready.1 hj
      obtain rfl : oj = o := Option.some.inj (hoj.symm.trans ho)
      have hnot : ∀ e ∈ oj.after, Region.binds md e = true → e.on ≠ i := fun e he hb heq => by
        have h1 := hall e he hb
        have h0 := (mem_ready.1 hr).1
        rw [heq] at h1
        rcases Nat.lt_or_ge i listed.size with h' | h'
        · simp [h'] at h0 h1; rw [h0] at h1; cases h1
        · simp [Array.getElem?_eq_none h'] at h1
      obtain ⟨hap, hfp⟩ := hfree j oj hoj hji hjun hnot
      obtain ⟨a1, a2, a3⟩ := Oper.apart_spec hap
      have hvj' : Valid Γ P N ops (fp j) oj ej st := (valid_step a1 hfp hv.wr).1 hvj
      have hvi' : Valid Γ P N ops (fp i) oi ei (stepE st oj ej) := (valid_step a3 hfp.symm hvj'.wr).2 hv
      refine ⟨ej, hvj', ih (listed.setIfInBounds j true) (stepE st oj ej) ?_ (ready_mono hr (Ne.symm hji)) hvi' ?_⟩
      · intro k ok hk hki hun hno
        refine hfree k ok hk hki ?_ hno
        by_cases hjk : j = k
        · subst hjk; exact hjun
        · rw [getD_set_ne true hjk] at hun; exact hun
      · rw [Array.setIfInBounds_comm _ _ hji, ← stepE_comm a2 hfp hv.wr hvj'.wr]
        exact H1

/-- Of each two steps of which the later one does not wait for the other: they touch no block of each other's writes. -/
def fpB (ops : Array Oper) (fp : List (List Nat × List Nat)) : Bool :=
  (List.range ops.size).all fun i => (fp.getD i ([], [])).1.isEmpty && (fp.getD i ([], [])).2.isEmpty || (List.range ops.size).all fun j => decide (j ≤ i) ||
    (match ops[j]? with
    | some oj => oj.after.any fun e => Region.binds .any e && e.on == i
    | none => true) || (disj (fp.getD i ([], [])).2 (fp.getD j ([], [])).1 && disj (fp.getD j ([], [])).2 (fp.getD i ([], [])).1 && disj (fp.getD i ([], [])).2 (fp.getD j ([], [])).2)

theorem fpB_spec {fp : List (List Nat × List Nat)} (h : fpB ops fp = true) {i j : Nat} {oj : Oper} (hi : i < ops.size) (hj : ops[j]? = some oj) (hij : i < j)
    (hno : ∀ e ∈ oj.after, Region.binds .any e = true → e.on ≠ i) : FpOK (fp.getD i ([], [])) (fp.getD j ([], [])) := by
  simp only [fpB, List.all_eq_true, List.mem_range, Bool.or_eq_true, Bool.and_eq_true] at h
  rcases h i hi with h1 | h1
  · simp only [List.isEmpty_iff] at h1
    unfold FpOK
    rw [h1.1, h1.2]
    simp [disj]
  · have h2 := h1 j (Array.getElem?_eq_some_iff.1 hj).1
    simp only [hj, decide_eq_true_eq] at h2
    rcases h2 with (h2 | h2) | h2
    · omega
    · obtain ⟨e, he, hb⟩ := Array.any_eq_true'.1 h2
      simp only [Bool.and_eq_true, beq_iff_eq] at hb
      exact absurd hb.2 (hno e he hb.1)
    · exact ⟨h2.1.1, h2.1.2, h2.2⟩

theorem WAny_lex {K : St → Prop} {fpl : List (List Nat × List Nat)} (hfp : fpB ops fpl = true) : ∀ (l : List Oper) (k : Nat) (listed : Array Bool) (st : St), (∀ j, l[j]? = ops[k + j]?) →
    (∀ j, j < k → listed.getD j true = true) →
    Region.lexFrom .any ops l.length k listed = true → RunA Γ P N ops (fun i => fpl.getD i ([], [])) K l k st → WAny Γ P N .any ops (fun i => fpl.getD i ([], [])) K l.length listed st
  | [], _, _, _, _, _, hB, h => ⟨by simpa [Region.lexFrom] using hB, h⟩
  | o :: l, k, listed, st, hl, hlow, hB, h => by
    have h0 : ops[k]? = some o := by simpa using (hl 0).symm
    have hk : k < ops.size := (Array.getElem?_eq_some_iff.1 h0).1
    simp only [List.length_cons, Region.lexFrom, Bool.and_eq_true] at hB
    obtain ⟨⟨hr, hf⟩, hB'⟩ := hB
    obtain ⟨e, hv, hrest⟩ := h
    refine WAny_first h0 l.length listed st ?_ (by simpa using hr) hv
      (WAny_lex hfp l (k + 1) _ _ (fun j => by have := hl (j + 1); simpa [Nat.add_assoc, Nat.add_comm 1 j] using this) ?_ hB' hrest)
    · intro j oj hj hne hun hno
      refine ⟨Region.free_spec h0 hf j oj hj hne hun hno, fpB_spec hfp hk hj ?_ hno⟩
      rcases Nat.lt_or_ge k j with h' | h'
      · exact h'
      · have := hlow j (by omega)
        rw [this] at hun; cases hun
    · intro j hj
      by_cases hjk : k = j
      · subst hjk
        by_cases hs : k < listed.size
        · simp [hs]
        · rw [Array.getD_eq_getD_getElem?, Array.getElem?_eq_none (by simpa using hs)]; rfl
      · rw [getD_set_ne true hjk]; exact hlow j (by omega)

theorem Rel.drew {F : Nat → Prop} {μ : Nat → Mu} {st : St} {a : Act} {w : World} (h : Rel Γ F N μ st a w) : Rel Γ F N μ st a { w with drawn := w.drawn + 1 } := by
  have hk : ∀ O, Keeps w O { w with drawn := w.drawn + 1 } O := fun O => ⟨Nat.le_refl _, fun b hb hO => ⟨rfl, hO⟩⟩
  refine ⟨h.tsz, h.dfs, fun t => (h.tmp t).mono (hk _) (fun _ _ => rfl) (fun _ _ => rfl), ⟨h.sto.fresh, fun t B ht => ?_, h.sto.inj, h.sto.notF, h.sto.ffin, h.sto.gam⟩⟩
  have h1 := h.sto.live t B ht
  cases B with
  | rows sz rs =>
    cases hm : μ t with
    | no => rw [hm] at h1; exact h1
    | ph => rw [hm] at h1; exact h1
    | «at» b =>
      rw [hm] at h1
      obtain ⟨c, ty, lo, hi, e1, e2, e3, e4, e5⟩ := h1
      exact ⟨c, ty, lo, hi, e1, e2, e3, e4, fun i r j p h1 h2 => let ⟨y, e6, e7⟩ := e5 i r j p h1 h2; ⟨y, e6, e7.mono (hk _) (fun _ _ => rfl) (fun _ _ => rfl)⟩⟩
  | mib es => cases hm : μ t <;> rw [hm] at h1 <;> exact h1

end
end Go.Am
/- Code of the abstract machine: sequences, tests, blocks, loops, regions, calls. -/
namespace Go.Am
variable {Γ : Nat → Option Obj}

section
variable {P : Program} {N pin : Nat}

def AW (Γ : Nat → Option Obj) (P : Program) (N pin : Nat) (c : Code) (Q : Exit → St → Prop) (st : St) : Prop :=
  ∀ (F : Nat → Prop) (μ : Nat → Mu) (a : Act) (w : World), Rel Γ F N μ st a w →
    c.wp P (fun e a' w' => ∃ μ' st', Rel Γ F N μ' st' a' w' ∧ Ext w (Own μ st.σ) w' (Own μ' st'.σ) ∧ (∀ t, t < pin → μ t ≠ .no → μ' t = μ t) ∧ Q e st') a w

theorem AW.mono {c : Code} {Q Q' : Exit → St → Prop} {st : St} (h : AW Γ P N pin c Q st) (hq : ∀ e st, Q e st → Q' e st) : AW Γ P N pin c Q' st :=
  fun F μ a w hr => wp_mono (h F μ a w hr) fun e _ _ ⟨μ', st', h1, h2, h3, h4⟩ => ⟨μ', st', h1, h2, h3, hq e st' h4⟩

def SeqQ (K : St → Prop) (Q : Exit → St → Prop) : Exit → St → Prop
  | .normal, st => K st
  | e, st => Q e st

def BlockQ (id : Nat) (Q : Exit → St → Prop) : Exit → St → Prop
  | .exit i, st => if i = id then Q .normal st else Q (.exit i) st
  | e, st => Q e st

theorem AW_skip {Q : Exit → St → Prop} {st : St} (h : Q .normal st) : AW Γ P N pin .skip Q st :=
  fun _ μ _ _ hr => wp_skip ⟨μ, st, hr, Ext.refl _ _, fun _ _ _ => rfl, h⟩
theorem AW_exit {id : Nat} {Q : Exit → St → Prop} {st : St} (h : Q (.exit id) st) : AW Γ P N pin (.exit id) Q st :=
  fun _ μ _ _ hr => wp_exit ⟨μ, st, hr, Ext.refl _ _, fun _ _ _ => rfl, h⟩
theorem AW_ret {Q : Exit → St → Prop} {st : St} (h : Q .ret st) : AW Γ P N pin .ret Q st :=
  fun _ μ _ _ hr => wp_ret ⟨μ, st, hr, Ext.refl _ _, fun _ _ _ => rfl, h⟩

theorem pin_trans {μ μ' μ'' : Nat → Mu} (h : ∀ t, t < pin → μ t ≠ .no → μ' t = μ t) (h' : ∀ t, t < pin → μ' t ≠ .no → μ'' t = μ' t) : ∀ t, t < pin → μ t ≠ .no → μ'' t = μ t :=
  fun t ht hn => by
    have h1 := h t ht hn
    exact (h' t ht (by rw [h1]; exact hn)).trans h1

theorem AW_seq {x y : Code} {Q : Exit → St → Prop} {st : St} (h : AW Γ P N pin x (SeqQ (AW Γ P N pin y Q) Q) st) : AW Γ P N pin (.seq x y) Q st := by
  intro F μ a w hr
  refine wp_seq (wp_mono (h F μ a w hr) ?_)
  rintro e a' w' ⟨μ', st', h1, h2, h3, h4⟩
  cases e with
  | normal =>
    exact wp_mono (h4 F μ' a' w' h1) fun e a'' w'' ⟨μ'', st'', k1, k2, k3, k4⟩ => ⟨μ'', st'', k1, h2.trans k2, pin_trans h3 k3, k4⟩
  | _ => exact ⟨μ', st', h1, h2, h3, h4⟩

theorem AW_block {id : Nat} {c : Code} {Q : Exit → St → Prop} {st : St} (h : AW Γ P N pin c (BlockQ id Q) st) : AW Γ P N pin (.block id c) Q st := by
  intro F μ a w hr
  refine wp_block (wp_mono (h F μ a w hr) ?_)
  rintro e a' w' ⟨μ', st', h1, h2, h3, h4⟩
  cases e with
  | exit i =>
    simp only [Exit.inBlock]
    simp only [BlockQ] at h4
    by_cases hi : i = id
    · simp only [hi, if_true] at h4 ⊢; exact ⟨μ', st', h1, h2, h3, h4⟩
    · simp only [hi, if_false] at h4 ⊢; exact ⟨μ', st', h1, h2, h3, h4⟩
  | _ => exact ⟨μ', st', h1, h2, h3, h4⟩

def constCell : Value → PV
  | .slice none 0 0 => .sl true []
  | x => .v x

def constPV : Value → PV
  | .agg cs => .agg (cs.toList.map constCell)
  | x => constCell x

def ev (A : Nat → PV) : Operand → PV
  | .tmp t => A t
  | .const c => constPV c
  | .global g => .v (.pointer (some ⟨g, 0, none⟩))
  | .func f => .fn (.func f) [] []

theorem constCell_rep (w : World) (O : Nat → Prop) (x : Value) : PRep w O (constCell x) x := by
  unfold constCell
  split
  · exact .nil true none 0 (fun _ => rfl)
  · exact .v _
theorem constPV_rep (w : World) (O : Nat → Prop) (x : Value) : PRep w O (constPV x) x := by
  unfold constPV
  split
  · rename_i cs
    refine .agg _ _ (by simp) fun i p y h1 h2 => ?_
    have h3 : cs.toList[i]? = some y := by simpa using h2
    rw [List.getElem?_map, h3] at h1
    simp only [Option.map_some, Option.some.injEq] at h1
    subst h1
    exact constCell_rep w O y
  · exact constCell_rep w O x

theorem ev_rep {w : World} {O : Nat → Prop} {μ : Nat → Mu} {A : Nat → PV} {a : Act} {x : Operand} (h : ∀ t, x = .tmp t → Rep w O μ (A t) (a.tmps.getD t undef)) :
    Rep w O μ (ev A x) (a.eval x) := by
  cases x with
  | tmp t => exact h t rfl
  | const c => exact .pure (constPV_rep w O c)
  | global g => exact .pure (.v _)
  | func f => exact .pure (.fn _ _ _ _ _ rfl rfl (fun i p y h => by simp at h) (fun i p y h => by simp at h))

theorem AW_cond {c : Operand} {x y : Code} {Q : Exit → St → Prop} {st : St} {b : Bool} (hc : ev st.a c = .v (.bool b)) (ht : b = true → AW Γ P N pin x Q st) (hf : b = false → AW Γ P N pin y Q st) :
    AW Γ P N pin (.cond c x y) Q st := by
  intro F μ a w hr
  have h1 := ev_rep (a := a) (x := c) fun t _ => hr.tmp t
  rw [hc] at h1
  have h2 := h1.of_v
  exact wp_cond_split h2 (fun h => ht h F μ a w hr) (fun h => hf h F μ a w hr)

/-- A state that is told with less, or otherwise. -/
def Weak (Γ : Nat → Option Obj) (pin : Nat) (st st2 : St) : Prop :=
  ∀ (F : Nat → Prop) (N : Nat) (μ : Nat → Mu) (a : Act) (w : World), Rel Γ F N μ st a w →
    ∃ μ2, Rel Γ F N μ2 st2 a w ∧ (∀ b, Own μ2 st2.σ b → Own μ st.σ b) ∧ ∀ t, t < pin → μ t ≠ .no → μ2 t = μ t

theorem Weak.refl (pin : Nat) (st : St) : Weak Γ pin st st := fun _ _ μ _ _ h => ⟨μ, h, fun _ h => h, fun _ _ _ => rfl⟩
theorem Weak.trans {pin : Nat} {s1 s2 s3 : St} (h : Weak Γ pin s1 s2) (h' : Weak Γ pin s2 s3) : Weak Γ pin s1 s3 := fun F N μ a w hr => by
  obtain ⟨μ2, r2, o2, p2⟩ := h F N μ a w hr
  obtain ⟨μ3, r3, o3, p3⟩ := h' F N μ2 a w r2
  exact ⟨μ3, r3, fun b hb => o2 b (o3 b hb), pin_trans p2 p3⟩

theorem Ext.sub {w w' : World} {O O2 O' : Nat → Prop} (h : Ext w O2 w' O') (hs : ∀ b, O2 b → O b) : Ext w O w' O' :=
  ⟨h.size, fun b hb hO => h.keep b hb fun h' => hO (hs b h'), h.shape, h.os, h.out⟩

theorem AW_weak {c : Code} {Q : Exit → St → Prop} {st st2 : St} (hw : Weak Γ pin st st2) (h : AW Γ P N pin c Q st2) : AW Γ P N pin c Q st := by
  intro F μ a w hr
  obtain ⟨μ2, r2, o2, p2⟩ := hw F N μ a w hr
  exact wp_mono (h F μ2 a w r2) fun e a' w' ⟨μ', st', k1, k2, k3, k4⟩ => ⟨μ', st', k1, k2.sub o2, pin_trans p2 k3, k4⟩

theorem AW_loop {α : Type} {body : Code} {Q : Exit → St → Prop} {st : St} (S : α → St) (m : α → Nat) (x0 : α) (h0 : Weak Γ pin st (S x0))
    (round : ∀ x, AW Γ P N pin body (SeqQ (fun st' => ∃ y, Weak Γ pin st' (S y) ∧ m y < m x) Q) (S x)) : AW Γ P N pin (.loop body) Q st := by
  refine AW_weak h0 ?_
  clear h0
  intro F μ a w hr b k cs
  have key : ∀ n x μ a w, m x = n → Rel Γ F N μ (S x) a w → ∃ e a' w', (∃ μ' st', Rel Γ F N μ' st' a' w' ∧ Ext w (Own μ (S x).σ) w' (Own μ' st'.σ) ∧ (∀ t, t < pin → μ t ≠ .no → μ' t = μ t) ∧ Q e st') ∧
      Arrives P (lone (b.at a (.code body :: .inLoop body :: k)) cs w) b k cs e a' w' := by
    intro n
    induction n using Nat.strongRecOn with
    | _ n ih =>
      intro x μ a w hn hI
      obtain ⟨e, a₁, w₁, ⟨μ₁, st₁, h1, h2, h3, h4⟩, harr⟩ := round x F μ a w hI b (.inLoop body :: k) cs
      cases e with
      | normal =>
        obtain ⟨y, hwk, hlt⟩ := h4
        obtain ⟨μ2, r2, o2, p2⟩ := hwk F N μ₁ a₁ w₁ h1
        obtain ⟨e₂, a₂, w₂, ⟨μ₃, st₃, k1, k2, k3, k4⟩, harr₂⟩ := ih (m y) (hn ▸ hlt) y μ2 a₁ w₁ rfl r2
        exact ⟨e₂, a₂, w₂, ⟨μ₃, st₃, k1, h2.trans (k2.sub o2), pin_trans (pin_trans h3 p2) k3, k4⟩, .of_steps (Steps.trans harr (.one step_inLoop)) harr₂⟩
      | exit id => exact ⟨_, a₁, w₁, ⟨μ₁, st₁, h1, h2, h3, h4⟩, .pass (x := .inLoop body) rfl (fun _ _ => .inl (by simp)) harr⟩
      | goto l => exact ⟨_, a₁, w₁, ⟨μ₁, st₁, h1, h2, h3, h4⟩, .pass (x := .inLoop body) rfl (fun _ _ => .inl (by simp)) harr⟩
      | ret => exact ⟨_, a₁, w₁, ⟨μ₁, st₁, h1, h2, h3, h4⟩, .pass (x := .inLoop body) rfl (fun _ _ => .inl (by simp)) harr⟩
      | panic ch => exact ⟨_, a₁, w₁, ⟨μ₁, st₁, h1, h2, h3, h4⟩, .pass (x := .inLoop body) rfl (fun _ _ => .inl (by simp)) harr⟩
      | outgrown => exact ⟨_, a₁, w₁, ⟨μ₁, st₁, h1, h2, h3, h4⟩, .pass (x := .inLoop body) rfl (fun _ _ => .inl (by simp)) harr⟩
  obtain ⟨e, a', w', hq, harr⟩ := key _ x0 μ a w rfl hr
  exact ⟨e, a', w', hq, .of_steps (.one step_loop) harr⟩

/-- Which operations a region's order may be changed for, and what is known of the program. -/
structure Env (P : Program) : Prop where
  mixed : P.follows .mixedOrders = true

theorem AW_region_text {id : Nat} {l : List Oper} {fp : Nat → List Nat × List Nat} {Q : Exit → St → Prop} {st : St}
    (h : RunA Γ P N l.toArray fp (Q .normal) l 0 st) : AW Γ P N pin (.region id l.toArray false) Q st := by
  intro F μ a w hr
  refine wp_region_lit (wpList_of_run l 0 st μ a w hr h ?_)
  exact fun st' a' w' μ' hk hr' hx hm => ⟨μ', st', hr', hx, fun t _ hn => hm t hn, hk⟩

theorem AW_region_any (hm : P.follows .mixedOrders = true) {id : Nat} {l : List Oper} {fpl : List (List Nat × List Nat)} {Q : Exit → St → Prop} {st : St}
    (hB : Region.lexB .any l.toArray = true) (hfp : fpB l.toArray fpl = true)
    (h : RunA Γ P N l.toArray (fun i => fpl.getD i ([], [])) (Q .normal) l 0 st) : AW Γ P N pin (.region id l.toArray true) Q st := by
  intro F μ a w hr
  simp only [Region.lexB, Bool.and_eq_true] at hB
  refine wp_region_any hm ?_
  have h1 := WAny_lex (K := Q .normal) hfp l 0 (Array.replicate l.toArray.size false) st (by simp) (fun j hj => absurd hj (Nat.not_lt_zero _)) (by simpa using hB.2) h
  have h2 := wpAny_of_WAny (Q := fun e a' w' => ∃ μ' st', Rel Γ F N μ' st' a' w' ∧ Ext w (Own μ st.σ) w' (Own μ' st'.σ) ∧ (∀ t, t < pin → μ t ≠ .no → μ' t = μ t) ∧ Q e st') _ _ st μ a _ hr.drew h1
    (fun st' a' w' μ' hk hr' hx hm' => ⟨μ', st', hr', ⟨hx.size, hx.keep, hx.shape, hx.os, hx.out⟩, fun t _ hn => hm' t hn, hk⟩)
  simpa using h2

end
end Go.Am
/- Contracts of functions over the abstract machine's values; a call by a contract; a call that touches blocks of the caller's. -/
namespace Go.Am
variable {Γ : Nat → Option Obj}

section
variable {P : Program}

def Ent (P : Program) (f : FuncId) : Prop := ∀ (args : Array Value) (w : World), (callFunc f args).run P w = .ok (.enter f args) w

theorem ent_of {f : FuncId} {fn : Func} {c : Code} (hf : P.funcs[f]? = some fn) (hname : (fn.name == "runtime.NumGoroutine") = false) (hb : fn.body = some c) : Ent P f := by
  intro args w
  have h1 : fn.name ≠ "runtime.NumGoroutine" := by simpa using hname
  simp [callFunc, hf, h1, hb]

def noσ : Nat → Slot := fun _ => .fresh
def ofB (l : List Blk) : Nat → Slot := fun t => match l[t]? with
  | some B => .live B
  | none => .fresh
def ofO (l : List (Option Blk)) : Nat → Slot := fun t => match l[t]? with
  | some (some B) => .live B
  | some none => .dead
  | none => .fresh

/-- A function of data alone. -/
def Pure (Γ : Nat → Option Obj) (P : Program) (f : FuncId) (args : List PV) (r : PV) : Prop :=
  ∀ (F : Nat → Prop) (w : World) (cargs : Array Value), Fr Γ F w → PReps w F args cargs.toList →
    Calls P f cargs w fun e w' => ∃ y, e = .returned y ∧ PRep w' F r y ∧ Ext w (fun _ => False) w' (fun _ => False)

/-- A function that works on blocks that it is handed. -/
def EC (Γ : Nat → Option Obj) (P : Program) (f : FuncId) (args : List PV) (s0 : List Blk) (r : PV) (s1 : List (Option Blk)) : Prop :=
  ∀ (F : Nat → Prop) (μ : Nat → Mu) (w : World) (cargs : Array Value), SRel Γ F w μ (ofB s0) → Reps w (OwnF F μ (ofB s0)) μ args cargs.toList →
    Calls P f cargs w fun e w' => ∃ y μ', e = .returned y ∧ SRel Γ F w' μ' (ofO s1) ∧ Rep w' (OwnF F μ' (ofO s1)) μ' r y ∧
      Ext w (Own μ (ofB s0)) w' (Own μ' (ofO s1)) ∧ ∀ t, t < s0.length → μ t ≠ .no → μ' t = μ t

mutual
def ren (f : Nat → Nat) : PV → PV
  | .agg cs => .agg (renL f cs)
  | .tup cs => .tup (renL f cs)
  | .fn g first caps => .fn g (renL f first) (renL f caps)
  | .ifc ty x => .ifc ty (ren f x)
  | .op sz t i off => .op sz (f t) i off
  | .os sz t i n => .os sz (f t) i n
  | .oa sz t i off n => .oa sz (f t) i off n
  | .om t => .om (f t)
  | .v x => .v x
  | .sl full rows => .sl full rows
  | .ip cs => .ip cs
  | .any => .any
def renL (f : Nat → Nat) : List PV → List PV
  | [] => []
  | x :: xs => ren f x :: renL f xs
end

mutual
/-- All blocks that it leads to are below k. -/
def okI (k : Nat) : PV → Bool
  | .agg cs => okL k cs
  | .tup cs => okL k cs
  | .fn _ first caps => okL k first && okL k caps
  | .ifc _ x => okI k x
  | .op _ t _ _ => decide (t < k)
  | .os _ t _ _ => decide (t < k)
  | .oa _ t _ _ _ => decide (t < k)
  | .om t => decide (t < k)
  | .v _ => true
  | .sl _ _ => true
  | .ip _ => true
  | .any => true
def okL (k : Nat) : List PV → Bool
  | [] => true
  | x :: xs => okI k x && okL k xs
end

theorem renL_eq (f : Nat → Nat) (l : List PV) : renL f l = l.map (ren f) := by
  induction l with
  | nil => rfl
  | cons x xs ih => simp [renL, ih]
theorem okL_eq (k : Nat) (l : List PV) : okL k l = l.all (okI k) := by
  induction l with
  | nil => rfl
  | cons x xs ih => simp [okL, ih]

def renB (f : Nat → Nat) : Blk → Blk
  | .rows sz rs => .rows sz (rs.map (renL f))
  | .mib es => .mib es
def okB (k : Nat) : Blk → Bool
  | .rows _ rs => rs.all (okL k)
  | .mib _ => true

theorem ren_in {w : World} {O O' : Nat → Prop} {μ μ' : Nat → Mu} {f : Nat → Nat} {k : Nat} (hO : ∀ b, O' b → O b) (hμ : ∀ t, t < k → μ' t = μ (f t)) {q : PV} {y : Value}
    (h : Rep w O μ q y) : ∀ p, q = ren f p → okI k p = true → Rep w O' μ' p y := by
  have hk : Keeps w O w O' := ⟨Nat.le_refl _, fun b _ hb => ⟨rfl, fun h => hb (hO b h)⟩⟩
  induction h with
  | pure h =>
    rename_i p0 y0
    intro p hp hok
    have h' := h.mono hk
    clear h
    revert p
    induction h' with
    | v x => intro p hp _; cases p <;> simp [ren] at hp; subst hp; exact .pure (.v x)
    | agg cs ys hl h ih =>
      intro p hp hok; cases p <;> simp [ren] at hp
      rename_i ds
      subst hp
      rw [renL_eq] at hl ih
      refine .agg ds ys (by simpa using hl) fun i p y h1 h2 => ih i (ren f p) y (by simp [h1]) h2 p rfl ?_
      simp only [okI, okL_eq, List.all_eq_true] at hok
      exact hok p (List.mem_of_getElem? h1)
    | tup cs ys hl h ih =>
      intro p hp hok; cases p <;> simp [ren] at hp
      rename_i ds
      subst hp
      rw [renL_eq] at hl ih
      refine .tup ds ys (by simpa using hl) fun i p y h1 h2 => ih i (ren f p) y (by simp [h1]) h2 p rfl ?_
      simp only [okI, okL_eq, List.all_eq_true] at hok
      exact hok p (List.mem_of_getElem? h1)
    | nil full a cap hf => intro p hp _; cases p <;> simp [ren] at hp; obtain ⟨rfl, rfl⟩ := hp; exact .pure (.nil _ a cap hf)
    | sl full rows sz b off cap vs hsz hcap hlen hf hO hb hc hr _ =>
      intro p hp _; cases p <;> simp [ren] at hp; obtain ⟨rfl, rfl⟩ := hp; exact .pure (.sl _ _ sz b off cap vs hsz hcap hlen hf hO hb hc hr)
    | ip cs b off vs hO hb hc hr _ => intro p hp _; cases p <;> simp [ren] at hp; subst hp; exact .pure (.ip _ b off vs hO hb hc hr)
    | fn g first caps xs ys hl hl' h h' ih ih' =>
      intro p hp hok; cases p <;> simp [ren] at hp
      rename_i g' fs cs
      obtain ⟨rfl, rfl, rfl⟩ := hp
      rw [renL_eq] at hl ih hl' ih'
      simp only [okI, okL_eq, Bool.and_eq_true, List.all_eq_true] at hok
      exact .fn _ fs cs xs ys (by simpa using hl) (by simpa using hl') (fun i p y h1 h2 => ih i (ren f p) y (by simp [h1]) h2 p rfl (hok.1 p (List.mem_of_getElem? h1)))
        (fun i p y h1 h2 => ih' i (ren f p) y (by simp [h1]) h2 p rfl (hok.2 p (List.mem_of_getElem? h1)))
    | ifc ty x y h ih =>
      intro p hp hok; cases p <;> simp [ren] at hp
      obtain ⟨rfl, rfl⟩ := hp
      exact .ifc _ _ y (ih _ rfl (by simpa [okI] using hok))
  | any y => intro p hp _; cases p <;> simp [ren] at hp; exact .any y
  | agg cs ys hl h ih =>
    intro p hp hok; cases p <;> simp [ren] at hp
    rename_i ds
    subst hp
    rw [renL_eq] at hl ih
    refine .agg ds ys (by simpa using hl) fun i p y h1 h2 => ih i (ren f p) y (by simp [h1]) h2 p rfl ?_
    simp only [okI, okL_eq, List.all_eq_true] at hok
    exact hok p (List.mem_of_getElem? h1)
  | tup cs ys hl h ih =>
    intro p hp hok; cases p <;> simp [ren] at hp
    rename_i ds
    subst hp
    rw [renL_eq] at hl ih
    refine .tup ds ys (by simpa using hl) fun i p y h1 h2 => ih i (ren f p) y (by simp [h1]) h2 p rfl ?_
    simp only [okI, okL_eq, List.all_eq_true] at hok
    exact hok p (List.mem_of_getElem? h1)
  | fn g first caps xs ys hl hl' h h' ih ih' =>
    intro p hp hok; cases p <;> simp [ren] at hp
    rename_i g' fs cs
    obtain ⟨rfl, rfl, rfl⟩ := hp
    rw [renL_eq] at hl ih hl' ih'
    simp only [okI, okL_eq, Bool.and_eq_true, List.all_eq_true] at hok
    exact .fn _ fs cs xs ys (by simpa using hl) (by simpa using hl') (fun i p y h1 h2 => ih i (ren f p) y (by simp [h1]) h2 p rfl (hok.1 p (List.mem_of_getElem? h1)))
      (fun i p y h1 h2 => ih' i (ren f p) y (by simp [h1]) h2 p rfl (hok.2 p (List.mem_of_getElem? h1)))
  | ifc ty x y h ih =>
    intro p hp hok; cases p <;> simp [ren] at hp
    obtain ⟨rfl, rfl⟩ := hp
    exact .ifc _ _ y (ih _ rfl (by simpa [okI] using hok))
  | op sz t i off b h =>
    intro p hp hok; cases p <;> simp [ren] at hp
    obtain ⟨rfl, rfl, rfl, rfl⟩ := hp
    exact .op _ _ _ _ b ((hμ _ (by simpa [okI] using hok)).trans h)
  | os sz t i n b cap h hn hlen hs =>
    intro p hp hok; cases p <;> simp [ren] at hp
    obtain ⟨rfl, rfl, rfl, rfl⟩ := hp
    exact .os _ _ _ _ b cap ((hμ _ (by simpa [okI] using hok)).trans h) hn hlen hs
  | ph sz t a h =>
    intro p hp hok; cases p <;> simp [ren] at hp
    obtain ⟨rfl, rfl, rfl, rfl⟩ := hp
    exact .ph _ _ a ((hμ _ (by simpa [okI] using hok)).trans h)
  | oa sz t i off n b cap h hn hlen =>
    intro p hp hok; cases p <;> simp [ren] at hp
    obtain ⟨rfl, rfl, rfl, rfl, rfl⟩ := hp
    exact .oa _ _ _ _ _ b cap ((hμ _ (by simpa [okI] using hok)).trans h) hn hlen
  | om t b h =>
    intro p hp hok; cases p <;> simp [ren] at hp
    subst hp
    exact .om _ b ((hμ _ (by simpa [okI] using hok)).trans h)

theorem ren_out {w : World} {O O' : Nat → Prop} {μ μ' : Nat → Mu} {f : Nat → Nat} (hO : ∀ b, O' b → O b) (hμ : ∀ t, μ t ≠ .no → μ' (f t) = μ t) {p : PV} {y : Value}
    (h : Rep w O μ p y) : Rep w O' μ' (ren f p) y := by
  have hk : Keeps w O w O' := ⟨Nat.le_refl _, fun b _ hb => ⟨rfl, fun h => hb (hO b h)⟩⟩
  induction h with
  | pure h =>
    have h' := h.mono hk
    clear h
    induction h' with
    | v x => exact .pure (.v x)
    | agg cs ys hl h ih =>
      refine .agg _ ys (by simpa [renL_eq] using hl) fun i p y h1 h2 => ?_
      rw [renL_eq, List.getElem?_map] at h1
      cases hc : cs[i]? with
      | none => simp [hc] at h1
      | some c => simp [hc] at h1; subst h1; exact ih i c y hc h2
    | tup cs ys hl h ih =>
      refine .tup _ ys (by simpa [renL_eq] using hl) fun i p y h1 h2 => ?_
      rw [renL_eq, List.getElem?_map] at h1
      cases hc : cs[i]? with
      | none => simp [hc] at h1
      | some c => simp [hc] at h1; subst h1; exact ih i c y hc h2
    | nil full a cap hf => exact .pure (.nil _ a cap hf)
    | sl full rows sz b off cap vs hsz hcap hlen hf hO hb hc hr _ => exact .pure (.sl _ _ sz b off cap vs hsz hcap hlen hf hO hb hc hr)
    | ip cs b off vs hO hb hc hr _ => exact .pure (.ip _ b off vs hO hb hc hr)
    | fn g first caps xs ys hl hl' h h' ih ih' =>
      refine .fn g _ _ xs ys (by simpa [renL_eq] using hl) (by simpa [renL_eq] using hl') (fun i p y h1 h2 => ?_) (fun i p y h1 h2 => ?_)
      · rw [renL_eq, List.getElem?_map] at h1
        cases hc : first[i]? with
        | none => simp [hc] at h1
        | some c => simp [hc] at h1; subst h1; exact ih i c y hc h2
      · rw [renL_eq, List.getElem?_map] at h1
        cases hc : caps[i]? with
        | none => simp [hc] at h1
        | some c => simp [hc] at h1; subst h1; exact ih' i c y hc h2
    | ifc ty x y h ih => exact .ifc ty _ y ih
  | any y => exact .any y
  | agg cs ys hl h ih =>
    refine .agg _ ys (by simpa [renL_eq] using hl) fun i p y h1 h2 => ?_
    rw [renL_eq, List.getElem?_map] at h1
    cases hc : cs[i]? with
    | none => simp [hc] at h1
    | some c => simp [hc] at h1; subst h1; exact ih i c y hc h2
  | tup cs ys hl h ih =>
    refine .tup _ ys (by simpa [renL_eq] using hl) fun i p y h1 h2 => ?_
    rw [renL_eq, List.getElem?_map] at h1
    cases hc : cs[i]? with
    | none => simp [hc] at h1
    | some c => simp [hc] at h1; subst h1; exact ih i c y hc h2
  | fn g first caps xs ys hl hl' h h' ih ih' =>
    refine .fn g _ _ xs ys (by simpa [renL_eq] using hl) (by simpa [renL_eq] using hl') (fun i p y h1 h2 => ?_) (fun i p y h1 h2 => ?_)
    · rw [renL_eq, List.getElem?_map] at h1
      cases hc : first[i]? with
      | none => simp [hc] at h1
      | some c => simp [hc] at h1; subst h1; exact ih i c y hc h2
    · rw [renL_eq, List.getElem?_map] at h1
      cases hc : caps[i]? with
      | none => simp [hc] at h1
      | some c => simp [hc] at h1; subst h1; exact ih' i c y hc h2
  | ifc ty x y h ih => exact .ifc ty _ y ih
  | op sz t i off b h => exact .op _ _ _ _ b ((hμ t (by rw [h]; simp)).trans h)
  | os sz t i n b cap h hn hlen hs => exact .os _ _ _ _ b cap ((hμ t (by rw [h]; simp)).trans h) hn hlen hs
  | ph sz t a h => exact .ph _ _ a ((hμ t (by rw [h]; simp)).trans h)
  | oa sz t i off n b cap h hn hlen => exact .oa _ _ _ _ _ b cap ((hμ t (by rw [h]; simp)).trans h) hn hlen
  | om t b h => exact .om _ b ((hμ t (by rw [h]; simp)).trans h)

theorem brep_in {w : World} {O O' : Nat → Prop} {μ μ' : Nat → Mu} {f : Nat → Nat} {k : Nat} (hO : ∀ b, O' b → O b) (hμ : ∀ t, t < k → μ' t = μ (f t)) {B : Blk} {m : Mu}
    (h : BRep w O μ (renB f B) m) (hok : okB k B = true) : BRep w O' μ' B m := by
  cases B with
  | mib es => cases m <;> exact h
  | rows sz rs =>
    cases m with
    | no => exact h
    | ph => simpa [BRep, renB] using h
    | «at» b =>
      obtain ⟨c, ty, lo, hi, e1, e2, e3, e4, e5⟩ := h
      refine ⟨c, ty, lo, hi, e1, e2, by simpa using e3, fun r hr => ?_, fun i r j p h1 h2 => ?_⟩
      · have := e4 (renL f r) (List.mem_map.2 ⟨r, hr, rfl⟩)
        simpa [renL_eq] using this
      · obtain ⟨y, hy, hrep⟩ := e5 i (renL f r) j (ren f p) (by simp [h1]) (by simp [renL_eq, h2])
        refine ⟨y, hy, ren_in hO hμ hrep p rfl ?_⟩
        simp only [okB, List.all_eq_true, okL_eq] at hok
        exact hok r (List.mem_of_getElem? h1) p (List.mem_of_getElem? h2)

theorem brep_out {w : World} {O O' : Nat → Prop} {μ μ' : Nat → Mu} {f : Nat → Nat} (hO : ∀ b, O' b → O b) (hμ : ∀ t, μ t ≠ .no → μ' (f t) = μ t) {B : Blk} {m : Mu}
    (h : BRep w O μ B m) : BRep w O' μ' (renB f B) m := by
  cases B with
  | mib es => cases m <;> exact h
  | rows sz rs =>
    cases m with
    | no => exact h
    | ph => simpa [BRep, renB] using h
    | «at» b =>
      obtain ⟨c, ty, lo, hi, e1, e2, e3, e4, e5⟩ := h
      refine ⟨c, ty, lo, hi, e1, e2, by simpa using e3, fun r hr => ?_, fun i r j p h1 h2 => ?_⟩
      · obtain ⟨r', hr', rfl⟩ := List.mem_map.1 hr
        have := e4 r' hr'
        simpa [renL_eq] using this
      · rw [List.getElem?_map] at h1
        cases hr : rs[i]? with
        | none => simp [hr] at h1
        | some r' =>
          simp only [hr, Option.map_some, Option.some.injEq] at h1
          subst h1
          rw [renL_eq, List.getElem?_map] at h2
          cases hp : r'[j]? with
          | none => simp [hp] at h2
          | some p' =>
            simp only [hp, Option.map_some, Option.some.injEq] at h2
            subst h2
            obtain ⟨y, hy, hrep⟩ := e5 i r' j p' hr hp
            exact ⟨y, hy, ren_out hO hμ hrep⟩

end
end Go.Am
/- What a store and a new block do to a state; running parts of the model that touch no memory. -/
namespace Go.Am
variable {Γ : Nat → Option Obj} {P : Program}

/-! ### Parts that touch no memory -/
def sc {α : Type} (P : Program) : Sem α → Option α
  | .pure a => some a
  | .program k => sc P (k P)
  | .mark _ k => sc P k
  | _ => none

theorem sc_run {α : Type} {s : Sem α} {x : α} (h : sc P s = some x) (w : World) : s.run P w = .ok x w := by
  induction s with
  | pure a => simp [sc] at h; subst h; simp [Sem.run]
  | program k ih => simp only [sc] at h; simp only [Sem.run]; exact ih P h
  | mark m k ih => simp only [sc] at h; simp only [Sem.run]; exact ih h
  | _ => simp [sc] at h

theorem sc_pure {α : Type} (x : α) : sc P (pure x : Sem α) = some x := rfl
theorem sc_pure' {α : Type} (x : α) : sc P (Sem.pure x) = some x := rfl
theorem sc_bind' {α β : Type} (s : Sem α) (f : α → Sem β) : sc P (s.bind f) = (sc P s).bind fun x => sc P (f x) := by
  induction s with
  | pure a => rfl
  | program k ih => simp only [Sem.bind, sc, ih]
  | mark m k ih => simp only [Sem.bind, sc, ih]
  | _ => rfl
theorem sc_bind {α β : Type} (s : Sem α) (f : α → Sem β) : sc P (s >>= f) = (sc P s).bind fun x => sc P (f x) := sc_bind' s f

/-! ### One block turned -/
def setBlk (w : World) (b : Nat) (o : Obj) : World := { w with heap := w.heap.setIfInBounds b o }

theorem setBlk_same {w : World} {b : Nat} {o : Obj} (h : b < w.heap.size) : (setBlk w b o).heap[b]? = some o := by simp [setBlk, h]
theorem setBlk_ne {w : World} {b b' : Nat} {o : Obj} (h : b' ≠ b) : (setBlk w b o).heap[b']? = w.heap[b']? := by
  simp only [setBlk]; exact Array.getElem?_setIfInBounds_ne (Ne.symm h)
theorem setBlk_size {w : World} {b : Nat} {o : Obj} : (setBlk w b o).heap.size = w.heap.size := by simp [setBlk]

theorem lt_of_heap {w : World} {b : Nat} {o : Obj} (h : w.heap[b]? = some o) : b < w.heap.size := (Array.getElem?_eq_some_iff.1 h).1

theorem own_lt {F : Nat → Prop} {μ : Nat → Mu} {σ : Nat → Slot} {w : World} (h : SRel Γ F w μ σ) {b : Nat} (hb : Own μ σ b) : b < w.heap.size := by
  obtain ⟨t, B, ht, hm⟩ := hb
  have h1 := h.live t B ht
  rw [hm] at h1
  cases B with
  | rows sz rs => obtain ⟨c, ty, lo, hi, e1, _⟩ := h1; exact lt_of_heap e1
  | mib es => obtain ⟨ents, clock, e1, _⟩ := h1; exact lt_of_heap e1

theorem ownF_lt {F : Nat → Prop} {μ : Nat → Mu} {σ : Nat → Slot} {w : World} (h : SRel Γ F w μ σ) {b : Nat} (hb : OwnF F μ σ b) : b < w.heap.size :=
  hb.elim (h.ffin b) (own_lt h)

theorem Own.upd_live {μ : Nat → Mu} {σ : Nat → Slot} {t : Nat} {B B' : Blk} (ht : σ t = .live B) (b : Nat) : Own μ (upd σ t (.live B')) b ↔ Own μ σ b := by
  constructor
  · rintro ⟨u, B2, hu, hm⟩
    by_cases e : u = t
    · subst e; exact ⟨u, B, ht, hm⟩
    · rw [upd_ne _ _ e] at hu; exact ⟨u, B2, hu, hm⟩
  · rintro ⟨u, B2, hu, hm⟩
    by_cases e : u = t
    · subst e; exact ⟨u, B', upd_same _ _ _, hm⟩
    · exact ⟨u, B2, by rw [upd_ne _ _ e]; exact hu, hm⟩

theorem ownF_upd_live {F : Nat → Prop} {μ : Nat → Mu} {σ : Nat → Slot} {t : Nat} {B B' : Blk} (ht : σ t = .live B) : OwnF F μ (upd σ t (.live B')) = OwnF F μ σ := by
  funext b; exact propext (or_congr_right (Own.upd_live ht b))

theorem brep_keep {w w' : World} {O O' : Nat → Prop} {μ μ' : Nat → Mu} (hk : Keeps w O w' O') (hs : ∀ b, b < w.heap.size → w'.shape? b = w.shape? b)
    (hμ : MuExt μ μ') {B : Blk} {m : Mu} (hb : ∀ b, m = .at b → w'.heap[b]? = w.heap[b]?) (h : BRep w O μ B m) : BRep w' O' μ' B m := by
  cases B with
  | rows sz rs =>
    cases m with
    | no => exact h
    | ph => exact h
    | «at» b =>
      obtain ⟨c, ty, lo, hi, e1, e2, e3, e4, e5⟩ := h
      exact ⟨c, ty, lo, hi, (hb b rfl).trans e1, e2, e3, e4, fun i r j p h1 h2 => let ⟨y, e6, e7⟩ := e5 i r j p h1 h2; ⟨y, e6, e7.mono hk hs hμ⟩⟩
  | mib es =>
    cases m with
    | «at» b => obtain ⟨ents, clock, e1, e2⟩ := h; exact ⟨ents, clock, (hb b rfl).trans e1, e2⟩
    | no => exact h
    | ph => exact h

/-- A block of the call's own is turned. -/
theorem srel_set {F : Nat → Prop} {μ : Nat → Mu} {σ : Nat → Slot} {w : World} (h : SRel Γ F w μ σ) {t b : Nat} {B B' : Blk} {o : Obj} (ht : σ t = .live B) (hm : μ t = .at b)
    (hsh : (setBlk w b o).shape? b = w.shape? b) (hB : BRep (setBlk w b o) (OwnF F μ σ) μ B' (.at b)) :
    SRel Γ F (setBlk w b o) μ (upd σ t (.live B')) ∧ Ext w (Own μ σ) (setBlk w b o) (Own μ (upd σ t (.live B'))) := by
  have hown : Own μ σ b := ⟨t, B, ht, hm⟩
  have hlt := own_lt h hown
  have hO := ownF_upd_live (F := F) (μ := μ) (B' := B') ht
  have hshape : ∀ c, c < w.heap.size → (setBlk w b o).shape? c = w.shape? c := fun c _ => by
    by_cases e : c = b
    · subst e; exact hsh
    · simp only [World.shape?, setBlk_ne e]
  have hk : Keeps w (OwnF F μ σ) (setBlk w b o) (OwnF F μ σ) := ⟨by rw [setBlk_size]; exact Nat.le_refl _, fun c _ hc => ⟨setBlk_ne fun e => hc (by subst e; exact .inr hown), hc⟩⟩
  refine ⟨⟨fun u hu => ?_, fun u B2 hu => ?_, ?_, ?_, fun c hc => by rw [setBlk_size]; exact h.ffin c hc, fun c o' hc => ?_⟩, ⟨by rw [setBlk_size]; exact Nat.le_refl _, fun c _ hO => ⟨setBlk_ne fun e => hO (by subst e; exact hown), fun h' => hO ((Own.upd_live ht c).1 h')⟩, hshape, rfl, rfl⟩⟩
  · by_cases e : u = t
    · subst e; rw [upd_same] at hu; cases hu
    · rw [upd_ne _ _ e] at hu; exact h.fresh u hu
  · rw [hO]
    by_cases e : u = t
    · subst e; rw [upd_same] at hu; cases hu; rw [hm]; exact hB
    · rw [upd_ne _ _ e] at hu
      refine brep_keep hk hshape (MuExt.refl _) (fun c hc => ?_) (h.live u B2 hu)
      exact setBlk_ne fun e' => e (by subst e'; exact h.inj u t B2 B _ hu ht hc hm)
  · intro u v B1 B2 c hu hv h1 h2
    have lift : ∀ x B3, upd σ t (.live B') x = .live B3 → ∃ B4, σ x = .live B4 := fun x B3 hx => by
      by_cases e : x = t
      · subst e; exact ⟨B, ht⟩
      · rw [upd_ne _ _ e] at hx; exact ⟨B3, hx⟩
    obtain ⟨C1, k1⟩ := lift u B1 hu
    obtain ⟨C2, k2⟩ := lift v B2 hv
    exact h.inj u v C1 C2 c k1 k2 h1 h2
  · intro u B2 c hu hc
    by_cases e : u = t
    · subst e; exact h.notF u B c ht hc
    · rw [upd_ne _ _ e] at hu; exact h.notF u B2 c hu hc
  · have h1 := h.gam c o' hc
    rw [hO]
    exact ⟨(setBlk_ne fun e => h1.2 (by subst e; exact .inr hown)).trans h1.1, h1.2⟩

def pushW (w : World) (o : Obj) : World := { w with heap := w.heap.push o }
theorem pushW_new {w : World} {o : Obj} : (pushW w o).heap[w.heap.size]? = some o := by
  simp only [pushW]; exact Array.getElem?_push_size
theorem pushW_old {w : World} {o : Obj} {b : Nat} (h : b < w.heap.size) : (pushW w o).heap[b]? = w.heap[b]? := by
  simp only [pushW]; rw [Array.getElem?_push_lt h, Array.getElem?_eq_getElem h]

/-- A new block. -/
theorem srel_new {F : Nat → Prop} {μ : Nat → Mu} {σ : Nat → Slot} {w : World} (h : SRel Γ F w μ σ) {t : Nat} {B : Blk} {o : Obj} (ht : σ t = .fresh)
    (hB : BRep (pushW w o) (OwnF F (upd μ t (.at w.heap.size)) (upd σ t (.live B))) (upd μ t (.at w.heap.size)) B (.at w.heap.size)) :
    SRel Γ F (pushW w o) (upd μ t (.at w.heap.size)) (upd σ t (.live B)) ∧ Ext w (Own μ σ) (pushW w o) (Own (upd μ t (.at w.heap.size)) (upd σ t (.live B))) ∧ MuExt μ (upd μ t (.at w.heap.size)) := by
  have hno := h.fresh t ht
  have hme : MuExt μ (upd μ t (.at w.heap.size)) := fun u hu => upd_ne _ _ fun e => hu (by subst e; exact hno)
  have hown : ∀ b, b < w.heap.size → (Own (upd μ t (.at w.heap.size)) (upd σ t (.live B)) b → Own μ σ b) := by
    rintro b hb ⟨u, B2, hu, hm⟩
    by_cases e : u = t
    · subst e; rw [upd_same] at hm; cases hm; exact absurd hb (Nat.lt_irrefl _)
    · rw [upd_ne _ _ e] at hu hm; exact ⟨u, B2, hu, hm⟩
  have hsz : w.heap.size ≤ (pushW w o).heap.size := by simp [pushW]
  have hshape : ∀ c, c < w.heap.size → (pushW w o).shape? c = w.shape? c := fun c hc => by simp only [World.shape?, pushW_old hc]
  have hk : Keeps w (OwnF F μ σ) (pushW w o) (OwnF F (upd μ t (.at w.heap.size)) (upd σ t (.live B))) :=
    ⟨hsz, fun c hc hO => ⟨pushW_old hc, fun h' => hO (h'.imp id (hown c hc))⟩⟩
  refine ⟨⟨fun u hu => ?_, fun u B2 hu => ?_, ?_, ?_, fun c hc => Nat.lt_of_lt_of_le (h.ffin c hc) hsz, fun c o' hc => ?_⟩, ⟨hsz, fun c hc hO => ⟨pushW_old hc, fun h' => hO (hown c hc h')⟩, hshape, rfl, rfl⟩, hme⟩
  · by_cases e : u = t
    · subst e; rw [upd_same] at hu; cases hu
    · rw [upd_ne _ _ e] at hu ⊢; exact h.fresh u hu
  · by_cases e : u = t
    · subst e; rw [upd_same] at hu ⊢; cases hu; exact hB
    · rw [upd_ne _ _ e] at hu ⊢
      exact brep_keep hk hshape hme (fun c hc => pushW_old (own_lt h ⟨u, B2, hu, hc⟩)) (h.live u B2 hu)
  · intro u v B1 B2 c hu hv h1 h2
    by_cases e : u = t
    · subst e
      by_cases e' : v = u
      · exact e'.symm
      · rw [upd_ne _ _ e'] at hv h2
        rw [upd_same] at h1; cases h1
        exact absurd (own_lt h ⟨v, B2, hv, h2⟩) (Nat.lt_irrefl _)
    · rw [upd_ne _ _ e] at hu h1
      by_cases e' : v = t
      · subst e'
        rw [upd_same] at h2; cases h2
        exact absurd (own_lt h ⟨u, B1, hu, h1⟩) (Nat.lt_irrefl _)
      · rw [upd_ne _ _ e'] at hv h2
        exact h.inj u v B1 B2 c hu hv h1 h2
  · intro u B2 c hu hc hF
    by_cases e : u = t
    · subst e; rw [upd_same] at hc; cases hc; exact absurd (h.ffin _ hF) (Nat.lt_irrefl _)
    · rw [upd_ne _ _ e] at hu hc; exact h.notF u B2 c hu hc hF
  · have h1 := h.gam c o' hc
    have hlt := lt_of_heap h1.1
    exact ⟨(pushW_old hlt).trans h1.1, fun h' => h1.2 (h'.imp id (hown c hlt))⟩

/-- A new block, seen from the values that stood before. -/
theorem rep_new {F : Nat → Prop} {μ : Nat → Mu} {σ : Nat → Slot} {w : World} (h : SRel Γ F w μ σ) {t : Nat} {B : Blk} {o : Obj} (ht : σ t = .fresh) {p : PV} {y : Value}
    (hr : Rep w (OwnF F μ σ) μ p y) : Rep (pushW w o) (OwnF F (upd μ t (.at w.heap.size)) (upd σ t (.live B))) (upd μ t (.at w.heap.size)) p y := by
  have hno := h.fresh t ht
  refine hr.mono ⟨by simp [pushW], fun c hc hO => ⟨pushW_old hc, fun h' => hO (h'.imp id ?_)⟩⟩ (fun c hc => by simp only [World.shape?, pushW_old hc])
    (fun u hu => upd_ne _ _ fun e => hu (by subst e; exact hno))
  rintro ⟨u, B2, hu, hm⟩
  by_cases e : u = t
  · subst e; rw [upd_same] at hm; cases hm; exact absurd hc (Nat.lt_irrefl _)
  · rw [upd_ne _ _ e] at hu hm; exact ⟨u, B2, hu, hm⟩

/-! ### Stores into a row of cells -/
def writeAt (c : Array Value) (o : Nat) : List Value → Array Value
  | [] => c
  | v :: vs => writeAt (c.setIfInBounds o v) (o + 1) vs

theorem writeAt_size (vs : List Value) : ∀ (c : Array Value) (o : Nat), (writeAt c o vs).size = c.size := by
  induction vs with
  | nil => intro c o; rfl
  | cons v vs ih => intro c o; simp only [writeAt, ih, Array.size_setIfInBounds]

theorem writeAt_get (vs : List Value) : ∀ (c : Array Value) (o k : Nat), o + vs.length ≤ c.size →
    (writeAt c o vs)[k]? = if o ≤ k ∧ k < o + vs.length then vs[k - o]? else c[k]? := by
  induction vs with
  | nil => intro c o k _; simp only [writeAt, List.length_nil]; rw [if_neg (by omega)]
  | cons v vs ih =>
    intro c o k h
    simp only [List.length_cons] at h ⊢
    rw [writeAt, ih _ _ _ (by simp; omega)]
    by_cases h1 : o + 1 ≤ k ∧ k < o + 1 + vs.length
    · rw [if_pos h1, if_pos (by omega)]
      obtain ⟨d, rfl⟩ : ∃ d, k = o + 1 + d := ⟨k - (o + 1), by omega⟩
      rw [show o + 1 + d - (o + 1) = d from by omega, show o + 1 + d - o = d + 1 from by omega]
      rfl
    · rw [if_neg h1]
      by_cases h2 : k = o
      · subst h2
        rw [if_pos (by omega), Nat.sub_self]
        simp [show k < c.size from by omega]
      · rw [if_neg (by omega)]
        exact Array.getElem?_setIfInBounds_ne (Ne.symm h2)

def isCellV : Value → Bool
  | .agg _ => false
  | .tuple _ => false
  | _ => true

theorem addr_add (b off n : Nat) : (⟨b, off, none⟩ : Addr).add n = ⟨b, off + n, none⟩ := by
  unfold Addr.add
  split
  · rename_i h; simp [h]
  · rfl

theorem run_storeCells (b off : Nat) (ty lo hi : Nat) (hlh : hi ≤ lo) : ∀ (vs : List Value) (i : Nat) (c : Array Value) (w : World), w.heap[b]? = some (.cells c ty (lo, hi)) →
    off + i + vs.length ≤ c.size → (∀ v ∈ vs, isCellV v = true) → (storeCells ⟨b, off, none⟩ vs i).run P w = .ok () (setBlk w b (.cells (writeAt c (off + i) vs) ty (lo, hi))) := by
  intro vs
  induction vs with
  | nil =>
    intro i c w h _ _
    have : setBlk w b (.cells c ty (lo, hi)) = w := by
      have hlt := lt_of_heap h
      have hg : w.heap[b] = .cells c ty (lo, hi) := by simpa [Array.getElem?_eq_getElem hlt] using h
      have e : w.heap.setIfInBounds b (.cells c ty (lo, hi)) = w.heap := by
        apply Array.ext_getElem?
        intro k
        by_cases hk : b = k
        · subst hk; simp [hlt, hg]
        · rw [Array.getElem?_setIfInBounds_ne hk]
      unfold setBlk
      rw [e]
    simp [storeCells, writeAt, this]
  | cons v vs ih =>
    intro i c w h hle hv
    have hlt := lt_of_heap h
    simp only [List.length_cons] at hle
    have hcell : w.cell? ⟨b, off + i, none⟩ = some (c[off + i]'(by omega)) := by simp [World.cell?, h]
    have hfr : w.frozen? ⟨b, off + i, none⟩ = false := by
      simp only [World.frozen?, h]
      simp; omega
    have hset : w.setCell ⟨b, off + i, none⟩ v = setBlk w b (.cells (c.setIfInBounds (off + i) v) ty (lo, hi)) := by
      simp only [World.setCell, setBlk]
      congr 1
      apply Array.ext_getElem?
      intro k
      rw [Array.getElem?_modify]
      by_cases hk : b = k
      · subst hk
        rw [h]
        simp [hlt]
      · simp [hk, Array.getElem?_setIfInBounds_ne hk]
    have hstore : (store ⟨b, off + i, none⟩ v).run P w = .ok () (setBlk w b (.cells (c.setIfInBounds (off + i) v) ty (lo, hi))) := by
      have hc := hv v (List.mem_cons_self ..)
      rw [← hset]
      cases v <;> simp [isCellV] at hc <;> simp [store, Sem.run, hcell, hfr]
    have h2 := ih (i + 1) (c.setIfInBounds (off + i) v) (setBlk w b (.cells (c.setIfInBounds (off + i) v) ty (lo, hi))) (setBlk_same hlt) (by simp; omega) (fun x hx => hv x (List.mem_cons_of_mem _ hx))
    have h3 : setBlk (setBlk w b (.cells (c.setIfInBounds (off + i) v) ty (lo, hi))) b (.cells (writeAt (c.setIfInBounds (off + i) v) (off + (i + 1)) vs) ty (lo, hi))
        = setBlk w b (.cells (writeAt c (off + i) (v :: vs)) ty (lo, hi)) := by
      simp [setBlk, writeAt, Nat.add_assoc]
    rw [h3] at h2
    simp only [storeCells, Sem.run_bind, addr_add, hstore, Result.andThen]
    exact h2

end Go.Am
/- Operations that make a value and touch no block: each is carried out by the model as the abstract machine has it. -/
namespace Go.Am
variable {Γ : Nat → Option Obj} {P : Program}

theorem OpOK.value {o : Oper} {A : Nat → PV} {p : PV} {rd : List (Nat × Slot)}
    (h : ∀ (F : Nat → Prop) (μ : Nat → Mu) (σ : Nat → Slot) (a : Act) (w : World), SRel Γ F w μ σ → (∀ t, Operand.tmp t ∈ o.op.operands.toList → Rep w (OwnF F μ σ) μ (A t) (a.tmps.getD t undef)) →
      (∀ q ∈ rd, σ q.1 = q.2) → ∃ y, (execOp a.eval o).run P w = .ok (.value y) w ∧ Rep w (OwnF F μ σ) μ p y) : OpOK Γ P o A ⟨p, rd, []⟩ := by
  intro F μ σ a w hs ht hr
  obtain ⟨y, he, hy⟩ := h F μ σ a w hs ht hr
  rw [he]
  exact ⟨μ, hs, hy, Ext.refl _ _, MuExt.refl _⟩

theorem ev_of {w : World} {O : Nat → Prop} {μ : Nat → Mu} {A : Nat → PV} {a : Act} {o : Oper} (h : ∀ t, Operand.tmp t ∈ o.op.operands.toList → Rep w O μ (A t) (a.tmps.getD t undef))
    {x : Operand} (hx : x ∈ o.op.operands.toList) : Rep w O μ (ev A x) (a.eval x) := ev_rep fun t e => h t (by subst e; exact hx)

theorem ev_of_v {w : World} {O : Nat → Prop} {μ : Nat → Mu} {A : Nat → PV} {a : Act} {o : Oper} (h : ∀ t, Operand.tmp t ∈ o.op.operands.toList → Rep w O μ (A t) (a.tmps.getD t undef))
    {x : Operand} (hx : x ∈ o.op.operands.toList) {c : Value} (hc : ev A x = .v c) : a.eval x = c := by
  have h1 := ev_of h hx
  rw [hc] at h1
  exact h1.of_v

theorem ok_move {o : Oper} {A : Nat → PV} {x : Operand} (ho : o.op = .move x) : OpOK Γ P o A ⟨ev A x, [], []⟩ :=
  .value fun F μ σ a w _ ht _ => ⟨a.eval x, by simp [execOp, ho], ev_of ht (by rw [ho]; simp [Op.operands])⟩
theorem ok_assign {o : Oper} {A : Nat → PV} {x : Operand} (ho : o.op = .assign x) : OpOK Γ P o A ⟨ev A x, [], []⟩ :=
  .value fun F μ σ a w _ ht _ => ⟨a.eval x, by simp [execOp, ho], ev_of ht (by rw [ho]; simp [Op.operands])⟩

theorem ok_pick {o : Oper} {A : Nat → PV} {c x y : Operand} {t : Bool} (ho : o.op = .pick c x y) (hc : ev A c = .v (.bool t)) : OpOK Γ P o A ⟨cond t (ev A x) (ev A y), [], []⟩ :=
  .value fun F μ σ a w _ ht _ => by
    have h1 := ev_of_v ht (x := c) (by rw [ho]; simp [Op.operands]) hc
    have hx := ev_of ht (x := x) (by rw [ho]; simp [Op.operands])
    have hy := ev_of ht (x := y) (by rw [ho]; simp [Op.operands])
    refine ⟨if t then a.eval x else a.eval y, by cases t <;> simp [execOp, ho, h1, asBool], ?_⟩
    cases t
    · exact hy
    · exact hx

def vOf : PV → Option Value
  | .v x => some x
  | _ => none
def vsOf : List PV → Option (List Value)
  | [] => some []
  | p :: ps => match vOf p, vsOf ps with
    | some x, some xs => some (x :: xs)
    | _, _ => none

/-- A value without memory, whole. -/
def toV : PV → Option Value
  | .v x => some x
  | .agg cs => match vsOf cs with
    | some l => some (.agg l.toArray)
    | none => none
  | _ => none

theorem toV_list {w : World} {O : Nat → Prop} {μ : Nat → Mu} : ∀ (cs : List PV) (l : List Value) (ys : List Value), vsOf cs = some l →
    cs.length = ys.length → (∀ (i : Nat) p y, cs[i]? = some p → ys[i]? = some y → Rep w O μ p y) → ys = l := by
  intro cs
  induction cs with
  | nil => intro l ys h hl _; cases ys with
    | nil => simpa [vsOf] using h
    | cons y ys => simp at hl
  | cons c cs ih =>
    intro l ys h hl hr
    cases ys with
    | nil => simp at hl
    | cons y ys =>
      simp only [vsOf] at h
      split at h
      · rename_i x xs hx hxs
        cases h
        have hc : c = .v x := by cases c <;> simp [vOf] at hx; rw [hx]
        subst hc
        rw [(hr 0 (.v x) y rfl rfl).of_v, ih xs ys hxs (by simpa using hl) (fun i p z h1 h2 => hr (i + 1) p z (by simpa using h1) (by simpa using h2))]
      · cases h

theorem toV_rep {w : World} {O : Nat → Prop} {μ : Nat → Mu} {p : PV} {y c : Value} (h : Rep w O μ p y) (hc : toV p = some c) : y = c := by
  cases p with
  | v x => simp [toV] at hc; subst hc; exact h.of_v
  | agg cs =>
    simp only [toV] at hc
    split at hc
    · rename_i l hl
      cases hc
      cases h with
      | pure h =>
        cases h with
        | agg _ ys hl' hh =>
          have := toV_list (w := w) (O := O) (μ := μ) cs l ys.toList hl (by simpa using hl') (fun i p y h1 h2 => .pure (hh i p y h1 (by simpa using h2)))
          rw [← this]
      | agg _ ys hl' hh =>
        have := toV_list (w := w) (O := O) (μ := μ) cs l ys.toList hl (by simpa using hl') (fun i p y h1 h2 => hh i p y h1 (by simpa using h2))
        rw [← this]
    · cases hc
  | _ => simp [toV] at hc

def binS (P : Program) (op : BinOp) (t : TypeId) (x y : Operand) (a b : Value) : Option Value := sc P (do eqGuard op t x y a b; binOp op t a b)

theorem ok_binOp {o : Oper} {A : Nat → PV} {op : BinOp} {t t' : TypeId} {x y : Operand} {a b c : Value} (ho : o.op = .binOp op t x y t') (hx : toV (ev A x) = some a) (hy : toV (ev A y) = some b)
    (hc : binS P op t x y a b = some c) : OpOK Γ P o A ⟨.v c, [], []⟩ :=
  .value fun F μ σ s w _ ht _ => by
    have h1 := toV_rep (ev_of ht (x := x) (by rw [ho]; simp [Op.operands])) hx
    have h2 := toV_rep (ev_of ht (x := y) (by rw [ho]; simp [Op.operands])) hy
    refine ⟨c, ?_, .pure (.v c)⟩
    have h3 := sc_run hc w
    simp only [execOp, ho, h1, h2]
    rw [Sem.run_bind, h3]; rfl

/-- The same, told by its run. -/
def BinR (P : Program) (op : BinOp) (t : TypeId) (x y : Operand) (a b c : Value) : Prop := ∀ w : World, (do eqGuard op t x y a b; binOp op t a b : Sem Value).run P w = .ok c w

theorem ok_binOp_run {o : Oper} {A : Nat → PV} {op : BinOp} {t t' : TypeId} {x y : Operand} {a b c : Value} (ho : o.op = .binOp op t x y t') (hx : toV (ev A x) = some a) (hy : toV (ev A y) = some b)
    (hc : BinR P op t x y a b c) : OpOK Γ P o A ⟨.v c, [], []⟩ :=
  .value fun F μ σ s w _ ht _ => by
    have h1 := toV_rep (ev_of ht (x := x) (by rw [ho]; simp [Op.operands])) hx
    have h2 := toV_rep (ev_of ht (x := y) (by rw [ho]; simp [Op.operands])) hy
    refine ⟨c, ?_, .pure (.v c)⟩
    have h3 := hc w
    simp only [execOp, ho, h1, h2]
    rw [Sem.run_bind, h3]; rfl

theorem ok_unOp {o : Oper} {A : Nat → PV} {op : UnOp} {t : TypeId} {x : Operand} {a c : Value} (ho : o.op = .unOp op t x) (hx : toV (ev A x) = some a)
    (hc : sc P (Op.unary op a) = some c) : OpOK Γ P o A ⟨.v c, [], []⟩ :=
  .value fun F μ σ s w _ ht _ => by
    have h1 := toV_rep (ev_of ht (x := x) (by rw [ho]; simp [Op.operands])) hx
    refine ⟨c, ?_, .pure (.v c)⟩
    have h3 := sc_run hc w
    simp only [execOp, ho, h1]
    rw [Sem.run_bind, h3]; rfl

theorem ok_convert {o : Oper} {A : Nat → PV} {s d : TypeId} {x : Operand} {a c : Value} (ho : o.op = .convert s d x) (hx : toV (ev A x) = some a)
    (hc : sc P (convert s d a) = some c) : OpOK Γ P o A ⟨.v c, [], []⟩ :=
  .value fun F μ σ _ w _ ht _ => by
    have h1 := toV_rep (ev_of ht (x := x) (by rw [ho]; simp [Op.operands])) hx
    refine ⟨c, ?_, .pure (.v c)⟩
    have h3 := sc_run hc w
    simp only [execOp, ho, h1]
    rw [Sem.run_bind, h3]; rfl

theorem ok_index {o : Oper} {A : Nat → PV} {t : TypeId} {x y : Operand} {a b c : Value} (ho : o.op = .index t x y) (hx : toV (ev A x) = some a) (hy : toV (ev A y) = some b)
    (hc : sc P (Instr.index t a b) = some c) : OpOK Γ P o A ⟨.v c, [], []⟩ :=
  .value fun F μ σ _ w _ ht _ => by
    have h1 := toV_rep (ev_of ht (x := x) (by rw [ho]; simp [Op.operands])) hx
    have h2 := toV_rep (ev_of ht (x := y) (by rw [ho]; simp [Op.operands])) hy
    refine ⟨c, ?_, .pure (.v c)⟩
    have h3 := sc_run hc w
    simp only [execOp, ho, h1, h2]
    rw [Sem.run_bind, h3]; rfl

theorem reps_map {w : World} {O : Nat → Prop} {μ : Nat → Mu} {A : Nat → PV} {a : Act} (l : List Operand) (h : ∀ x ∈ l, Rep w O μ (ev A x) (a.eval x)) (i : Nat) (p : PV) (y : Value)
    (h1 : (l.map (ev A))[i]? = some p) (h2 : (l.map a.eval)[i]? = some y) : Rep w O μ p y := by
  rw [List.getElem?_map] at h1 h2
  cases hx : l[i]? with
  | none => simp [hx] at h1
  | some x =>
    simp only [hx, Option.map_some, Option.some.injEq] at h1 h2
    subst h1 h2
    exact h x (List.mem_of_getElem? hx)

theorem ok_makeFunc {o : Oper} {A : Nat → PV} {fn : Fn} {first caps : Array Operand} (ho : o.op = .makeFunc fn first caps) :
    OpOK Γ P o A ⟨.fn fn (first.toList.map (ev A)) (caps.toList.map (ev A)), [], []⟩ :=
  .value fun F μ σ a w _ ht _ => by
    refine ⟨.func fn (first.map a.eval) (caps.map a.eval), by simp [execOp, ho, Instr.makeFunc], ?_⟩
    refine .fn fn _ _ _ _ (by simp) (by simp) (fun i p y h1 h2 => ?_) (fun i p y h1 h2 => ?_)
    · exact reps_map first.toList (fun x hx => ev_of ht (by rw [ho]; simp [Op.operands]; exact .inl (by simpa using hx))) i p y h1 (by simpa using h2)
    · exact reps_map caps.toList (fun x hx => ev_of ht (by rw [ho]; simp [Op.operands]; exact .inr (by simpa using hx))) i p y h1 (by simpa using h2)

theorem ok_makeInterface {o : Oper} {A : Nat → PV} {t : TypeId} {x : Operand} (ho : o.op = .makeInterface t x) {d : TypeDesc} (hd : P.underlying t = some d) (hi : ∀ ms, d ≠ .interface ms) :
    OpOK Γ P o A ⟨.ifc t (ev A x), [], []⟩ :=
  .value fun F μ σ a w _ ht _ => by
    refine ⟨.iface t (a.eval x), ?_, .ifc t _ _ (ev_of ht (by rw [ho]; simp [Op.operands]))⟩
    simp only [execOp, ho, Instr.makeInterface]
    rw [Sem.run_bind, Sem.run_bind, run_underlying hd]
    simp only [Result.andThen]
    cases d <;> first | rfl | exact absurd rfl (hi _)

theorem Rep.tup_get {w : World} {O : Nat → Prop} {μ : Nat → Mu} {cs : List PV} {y : Value} (h : Rep w O μ (.tup cs) y) : ∃ ys : Array Value, y = .tuple ys ∧ cs.length = ys.size ∧
    ∀ (i : Nat) p z, cs[i]? = some p → ys[i]? = some z → Rep w O μ p z := by
  cases h with
  | pure h => cases h with
    | tup _ ys hl hh => exact ⟨ys, rfl, hl, fun i p z h1 h2 => .pure (hh i p z h1 h2)⟩
  | tup _ ys hl hh => exact ⟨ys, rfl, hl, hh⟩

theorem Rep.agg_get {w : World} {O : Nat → Prop} {μ : Nat → Mu} {cs : List PV} {y : Value} (h : Rep w O μ (.agg cs) y) : ∃ ys : Array Value, y = .agg ys ∧ cs.length = ys.size ∧
    ∀ (i : Nat) p z, cs[i]? = some p → ys[i]? = some z → Rep w O μ p z := by
  cases h with
  | pure h => cases h with
    | agg _ ys hl hh => exact ⟨ys, rfl, hl, fun i p z h1 h2 => .pure (hh i p z h1 h2)⟩
  | agg _ ys hl hh => exact ⟨ys, rfl, hl, hh⟩

theorem ok_extract {o : Oper} {A : Nat → PV} {x : Operand} {i : Nat} {cs : List PV} {p : PV} (ho : o.op = .extract x i) (hx : ev A x = .tup cs) (hp : cs[i]? = some p) : OpOK Γ P o A ⟨p, [], []⟩ :=
  .value fun F μ σ a w _ ht _ => by
    have h1 := ev_of ht (x := x) (by rw [ho]; simp [Op.operands])
    rw [hx] at h1
    obtain ⟨ys, e, hl, hh⟩ := h1.tup_get
    have hi : i < ys.size := by rw [← hl]; exact (List.getElem?_eq_some_iff.1 hp).1
    refine ⟨ys[i], ?_, hh i p _ hp (by simp [hi])⟩
    simp only [execOp, ho, e, Instr.extract]
    simp [hi]

/-! ### Types -/
def tsz (P : Program) (t : TypeId) : Option Nat := (P.info? t).map (·.size)
def tag (P : Program) (t : TypeId) : Option Bool := (P.underlying t).map fun d => match d with | .struct _ | .array _ _ => true | _ => false
/-- A struct's field: where it begins, its cells. -/
def fld (P : Program) (t : TypeId) (f : Nat) : Option (Nat × Nat × Bool) :=
  match P.underlying t with
  | some (.struct fs) => match fs[f]? with
    | some fd => match tsz P fd.type, tag P fd.type with
      | some n, some g => some (fd.offset, n, g)
      | _, _ => none
    | none => none
  | _ => none
/-- A slice's element: its cells. -/
def sel (P : Program) (t : TypeId) : Option Nat :=
  match P.underlying t with
  | some (.slice e) => tsz P e
  | _ => none
/-- An array: how many, and an element's cells. -/
def ael (P : Program) (t : TypeId) : Option (Nat × Nat) :=
  match P.underlying t with
  | some (.array n e) => (tsz P e).map fun s => (n, s)
  | _ => none
def tzero (P : Program) (t : TypeId) : Option (List PV) := ((P.info? t).bind (·.zero)).map fun z => z.cells.toList.map constCell

theorem run_typeInfo {t : TypeId} {i : TypeInfo} (h : P.info? t = some i) (w : World) : (typeInfo t).run P w = .ok i w := by
  simp [typeInfo, program, Sem.run_bind, Sem.run, h, Result.andThen]
theorem run_sizeOf {t : TypeId} {n : Nat} (h : tsz P t = some n) (w : World) : (sizeOf t).run P w = .ok n w := by
  simp only [tsz, Option.map_eq_some_iff] at h
  obtain ⟨i, hi, rfl⟩ := h
  simp only [sizeOf]
  rw [Sem.run_bind, run_typeInfo hi]; rfl
theorem run_isAgg {t : TypeId} {g : Bool} (h : tag P t = some g) (w : World) : (isAgg t).run P w = .ok g w := by
  simp only [tag, Option.map_eq_some_iff] at h
  obtain ⟨d, hd, rfl⟩ := h
  simp only [isAgg]
  rw [Sem.run_bind, run_underlying hd]
  cases d <;> rfl

theorem fld_spec {t : TypeId} {f off n : Nat} {g : Bool} (h : fld P t f = some (off, n, g)) : ∃ fs fd, P.underlying t = some (.struct fs) ∧ fs[f]? = some fd ∧ fd.offset = off ∧ tsz P fd.type = some n ∧ tag P fd.type = some g := by
  unfold fld at h
  split at h
  · rename_i fs hu
    split at h
    · rename_i fd hf
      split at h
      · rename_i n' g' hn hg
        simp only [Option.some.injEq, Prod.mk.injEq] at h
        obtain ⟨rfl, rfl, rfl⟩ := h
        exact ⟨fs, fd, hu, hf, rfl, hn, hg⟩
      · cases h
    · cases h
  · cases h

theorem run_fieldAt {t : TypeId} {f off n : Nat} {g : Bool} (h : fld P t f = some (off, n, g)) (hn : n ≠ 0) (b o : Nat) (w : World) :
    (Instr.fieldAt t (.pointer (some ⟨b, o, none⟩)) f).run P w = .ok (.pointer (some ⟨b, o + off, none⟩)) w := by
  obtain ⟨fs, fd, h1, h2, h3, h4, _⟩ := fld_spec h
  simp only [Instr.fieldAt, Sem.run_bind, run_underlying h1, Result.andThen, h2, Instr.sureAddr, fieldPlace]
  simp only [Sem.run_pure, run_sizeOf h4, hn, if_false, addr_add, h3]

theorem ok_fieldAddr_op {o : Oper} {A : Nat → PV} {t : TypeId} {x : Operand} {f off n sz b i k : Nat} {g : Bool} (ho : o.op = .fieldAddr t x f) (hx : ev A x = .op sz b i k)
    (h : fld P t f = some (off, n, g)) (hn : n ≠ 0) : OpOK Γ P o A ⟨.op sz b i (k + off), [], []⟩ :=
  .value fun F μ σ a w _ ht _ => by
    have h1 := ev_of ht (x := x) (by rw [ho]; simp [Op.operands])
    rw [hx] at h1
    generalize hz : a.eval x = z at h1
    cases h1 with
    | pure h => cases h
    | op _ _ _ _ bb hm =>
      refine ⟨.pointer (some ⟨bb, i * sz + k + off, none⟩), ?_, ?_⟩
      · simp only [execOp, ho, hz]
        rw [Sem.run_bind, run_fieldAt h hn]; rfl
      · rw [Nat.add_assoc]; exact .op sz b i (k + off) bb hm

theorem ok_fieldAddr_ip {o : Oper} {A : Nat → PV} {t : TypeId} {x : Operand} {f off n : Nat} {cs : List PV} {g : Bool} (ho : o.op = .fieldAddr t x f) (hx : ev A x = .ip cs)
    (h : fld P t f = some (off, n, g)) (hn : n ≠ 0) : OpOK Γ P o A ⟨.ip (cs.drop off), [], []⟩ :=
  .value fun F μ σ a w _ ht _ => by
    have h1 := ev_of ht (x := x) (by rw [ho]; simp [Op.operands])
    rw [hx] at h1
    generalize hz : a.eval x = z at h1
    cases h1 with
    | pure h' => cases h' with
      | ip _ bb oo vs hO hb hc hr =>
        refine ⟨.pointer (some ⟨bb, oo + off, none⟩), ?_, .pure (.ip _ bb (oo + off) (fun j => vs (off + j)) hO hb (fun j p hj => ?_) (fun j p hj => ?_))⟩
        · simp only [execOp, ho, hz]
          rw [Sem.run_bind, run_fieldAt h hn]; rfl
        · rw [List.getElem?_drop] at hj
          rw [Nat.add_assoc]; exact hc _ p hj
        · rw [List.getElem?_drop] at hj; exact hr _ p hj

theorem ok_field {o : Oper} {A : Nat → PV} {t : TypeId} {x : Operand} {f off n : Nat} {g : Bool} {cs : List PV} (ho : o.op = .field t x f) (hx : ev A x = .agg cs)
    (h : fld P t f = some (off, n, g)) (hl : off + n ≤ cs.length) (hn : n ≠ 0) : OpOK Γ P o A ⟨if g then .agg ((cs.drop off).take n) else cs.getD off .any, [], []⟩ :=
  .value fun F μ σ a w _ ht _ => by
    have h1 := ev_of ht (x := x) (by rw [ho]; simp [Op.operands])
    rw [hx] at h1
    obtain ⟨ys, e, hlen, hh⟩ := h1.agg_get
    obtain ⟨fs, fd, u1, u2, u3, u4, u5⟩ := fld_spec h
    have hrun : (Instr.field t (a.eval x) f).run P w = (part fd.type ys off).run P w := by
      simp only [Instr.field, e, Sem.run_bind, run_underlying u1, Result.andThen, u2, asAgg, Sem.run_pure, u3]
    cases g with
    | true =>
      refine ⟨.agg (ys.extract off (off + n)), ?_, ?_⟩
      · simp only [execOp, ho]
        rw [Sem.run_bind, hrun]
        simp only [part, Sem.run_bind, run_isAgg u5, run_sizeOf u4, Result.andThen, if_true, Sem.run_pure]
      · refine .agg _ _ (by simp; omega) fun i p y h2 h3 => ?_
        simp only [List.getElem?_take, List.getElem?_drop] at h2
        split at h2
        · rename_i hi
          refine hh (off + i) p y h2 ?_
          rw [Array.getElem?_extract] at h3
          split at h3
          · exact h3
          · cases h3
        · cases h2
    | false =>
      have hi : off < ys.size := by omega
      refine ⟨ys[off], ?_, hh off _ _ (by simp [show off < cs.length from by omega]) (by simp [hi])⟩
      simp only [execOp, ho]
      rw [Sem.run_bind, hrun]
      simp [part, Sem.run_bind, run_isAgg u5, Result.andThen, hi]

end Go.Am
/- Operations that read, write and make memory. -/
namespace Go.Am
variable {Γ : Nat → Option Obj} {P : Program}

theorem run_loadArr {w : World} {b off n ty : Nat} {c : Array Value} {fr : Nat × Nat} (h : w.heap[b]? = some (.cells c ty fr)) (hle : off + n ≤ c.size) :
    (loadCells ⟨b, off, none⟩ n).run P w = .ok (c.extract off (off + n)) w := by
  rw [run_loadCells w ⟨b, off, none⟩ n (fun j => c.getD (off + j) undef) (fun j hj => by
    rw [addr_add]
    simp [World.cell?, h, show off + j < c.size from by omega])]
  congr 1
  apply Array.ext_getElem?
  intro k
  simp only [List.getElem?_toArray, List.getElem?_map, Array.getElem?_extract]
  by_cases hk : k < n
  · simp [hk, show off + k < c.size from by omega, show k < min (off + n) c.size - off from by omega]
  · simp [hk, show ¬ k < min (off + n) c.size - off from by omega]

/-- What a load of a variable of n cells gives, the cells being known. -/
def ldV (g : Bool) (cs : List PV) (off n : Nat) : PV := if g then .agg ((cs.drop off).take n) else cs.getD off .any

theorem ok_load_op {o : Oper} {A : Nat → PV} {t : TypeId} {x : Operand} {sz b i off n : Nat} {g : Bool} {rs : List (List PV)} {row : List PV} (ho : o.op = .load t x) (hx : ev A x = .op sz b i off)
    (hn : tsz P t = some n) (hg : tag P t = some g) (hr : rs[i]? = some row) (hl : off + n ≤ row.length) (h0 : n ≠ 0) :
    OpOK Γ P o A ⟨ldV g row off n, [(b, .live (.rows sz rs))], []⟩ :=
  .value fun F μ σ a w hs ht hrd => by
    have h1 := ev_of ht (x := x) (by rw [ho]; simp [Op.operands])
    rw [hx] at h1
    generalize hz : a.eval x = z at h1
    have hσ : σ b = .live (.rows sz rs) := hrd (b, .live (.rows sz rs)) (List.mem_cons_self ..)
    have hB := hs.live b _ hσ
    cases h1 with
    | pure h => cases h
    | op _ _ _ _ bb hm =>
      rw [hm] at hB
      obtain ⟨c, ty, lo, hi, e1, e2, e3, e4, e5⟩ := hB
      have hi' : i < rs.length := (List.getElem?_eq_some_iff.1 hr).1
      have hrow : row.length = sz := e4 row (List.mem_of_getElem? hr)
      have hfit : i * sz + off + n ≤ c.size := by
        have : (i + 1) * sz ≤ rs.length * sz := Nat.mul_le_mul_right _ hi'
        rw [Nat.add_mul] at this
        omega
      have hrun : (Instr.loadAt t (.pointer (some ⟨bb, i * sz + off, none⟩))).run P w = (if g then .ok (.agg (c.extract (i * sz + off) (i * sz + off + n))) w else .ok (c.getD (i * sz + off) undef) w) := by
        simp only [Instr.loadAt, Instr.sureAddr, loadVar, Sem.run_bind, Sem.run_pure, Result.andThen, run_isAgg hg]
        cases g with
        | true => simp only [if_true, Sem.run_bind, run_sizeOf hn, Result.andThen, run_loadArr e1 hfit, Sem.run_pure]
        | false =>
          have hc : w.cell? ⟨bb, i * sz + off, none⟩ = some (c.getD (i * sz + off) undef) := by simp [World.cell?, e1, show i * sz + off < c.size from by omega]
          simp [load, Sem.run, hc]
      cases g with
      | true =>
        refine ⟨.agg (c.extract (i * sz + off) (i * sz + off + n)), ?_, ?_⟩
        · simp only [execOp, ho, hz]
          rw [Sem.run_bind, hrun]; rfl
        · refine .agg _ _ (by simp; omega) fun j p y h2 h3 => ?_
          simp only [List.getElem?_take, List.getElem?_drop] at h2
          split at h2
          · rename_i hj
            obtain ⟨y', hy', hrep⟩ := e5 i row (off + j) p hr h2
            rw [Array.getElem?_extract] at h3
            split at h3
            · rw [show i * sz + (off + j) = i * sz + off + j from by omega] at hy'
              rw [hy'] at h3
              cases h3
              exact hrep
            · cases h3
          · cases h2
      | false =>
        refine ⟨c.getD (i * sz + off) undef, ?_, ?_⟩
        · simp only [execOp, ho, hz]
          rw [Sem.run_bind, hrun]; rfl
        · obtain ⟨y', hy', hrep⟩ := e5 i row off (row.getD off .any) hr (by simp [show off < row.length from by omega])
          have : c.getD (i * sz + off) undef = y' := by rw [Array.getD_eq_getD_getElem?, hy']; rfl
          rw [this]; exact hrep

theorem ok_load_ip {o : Oper} {A : Nat → PV} {t : TypeId} {x : Operand} {n : Nat} {g : Bool} {cs : List PV} (ho : o.op = .load t x) (hx : ev A x = .ip cs)
    (hn : tsz P t = some n) (hg : tag P t = some g) (hl : n ≤ cs.length) (h0 : n ≠ 0) : OpOK Γ P o A ⟨ldV g cs 0 n, [], []⟩ :=
  .value fun F μ σ a w hs ht hrd => by
    have h1 := ev_of ht (x := x) (by rw [ho]; simp [Op.operands])
    rw [hx] at h1
    generalize hz : a.eval x = z at h1
    cases h1 with
    | pure h => cases h with
      | ip _ bb oo vs hO hb hc hr =>
        have hcell : ∀ j, j < n → w.cell? ((⟨bb, oo, none⟩ : Addr).add j) = some (vs j) := fun j hj => by
          rw [addr_add]; exact hc j (cs[j]'(by omega)) (by simp)
        cases g with
        | true =>
          refine ⟨.agg ((List.range n).map vs).toArray, ?_, ?_⟩
          · simp only [execOp, ho, hz, Instr.loadAt, Instr.sureAddr, loadVar]
            simp only [Sem.run_bind, Sem.run_pure, Result.andThen, run_isAgg hg, if_true, run_sizeOf hn, run_loadCells w _ n vs hcell]
          · refine .agg _ _ (by simp; omega) fun j p y h2 h3 => ?_
            simp only [List.drop_zero, List.getElem?_take] at h2
            split at h2
            · rename_i hj
              simp [hj] at h3
              subst h3
              exact .pure (hr j p h2)
            · cases h2
        | false =>
          have h2 := hcell 0 (by omega)
          rw [addr_add, Nat.add_zero] at h2
          refine ⟨vs 0, ?_, .pure (hr 0 _ (by simp [ldV, show 0 < cs.length from by omega]))⟩
          simp only [execOp, ho, hz, Instr.loadAt, Instr.sureAddr, loadVar]
          simp [Sem.run_bind, Result.andThen, run_isAgg hg, load, Sem.run, h2]

/-! ### Cells of a value -/
def cellsOf : PV → List PV
  | .agg cs => cs
  | p => [p]

/-- It can be laid into cells. -/
def layable : PV → Bool
  | .any => false
  | .tup _ => false
  | .v x => isCellV x
  | _ => true

/-- A cell: no struct, no array. -/
def cellP : PV → Bool
  | .any => false
  | .tup _ => false
  | .agg _ => false
  | .v x => isCellV x
  | _ => true

theorem Rep.cellV {w : World} {O : Nat → Prop} {μ : Nat → Mu} {p : PV} {y : Value} (h : Rep w O μ p y) (hp : cellP p = true) : isCellV y = true := by
  cases h with
  | pure h => cases h <;> first | rfl | (simp [cellP] at hp; done) | (simpa [cellP] using hp)
  | _ => first | rfl | (simp [cellP] at hp)

theorem Rep.cells {w : World} {O : Nat → Prop} {μ : Nat → Mu} {p : PV} {y : Value} (h : Rep w O μ p y) (hp : layable p = true) :
    (cellsOf p).length = y.cells.size ∧ ∀ (i : Nat) q z, (cellsOf p)[i]? = some q → y.cells[i]? = some z → Rep w O μ q z := by
  have one : ∀ (q : PV) (z : Value), isCellV z = true → Rep w O μ q z → [q].length = z.cells.size ∧ ∀ (i : Nat) q' z', [q][i]? = some q' → z.cells[i]? = some z' → Rep w O μ q' z' := by
    intro q z hz hr
    have e : z.cells = #[z] := by cases z <;> first | rfl | (simp [isCellV] at hz)
    rw [e]
    refine ⟨rfl, fun i q' z' h1 h2 => ?_⟩
    cases i with
    | zero => simp at h1 h2; subst h1 h2; exact hr
    | succ i => simp at h1
  cases p with
  | agg cs =>
    obtain ⟨ys, rfl, hl, hh⟩ := h.agg_get
    exact ⟨hl, hh⟩
  | any => simp [layable] at hp
  | tup cs => simp [layable] at hp
  | v x => exact one _ _ (h.cellV (by simpa [layable, cellP] using hp)) h
  | _ => exact one _ _ (h.cellV rfl) h

theorem getElem?_one {α : Type} {l r : List α} {i : Nat} (hi : [r][i]? = some l) : i = 0 := by
  cases i with
  | zero => rfl
  | succ i => simp at hi

theorem rep_ptr0 {w : World} {O : Nat → Prop} {μ : Nat → Mu} {sz t b : Nat} (h : μ t = .at b) : Rep w O μ (.op sz t 0 0) (.pointer (some ⟨b, 0, none⟩)) := by
  have := Rep.op (w := w) (O := O) sz t 0 0 b h
  simpa using this

/-- One variable's block. -/
theorem brep_one {w : World} {O : Nat → Prop} {μ : Nat → Mu} {cs : List PV} {c : Array Value} {ty b : Nat} (h : w.heap[b]? = some (.cells c ty (0, 0))) (hl : cs.length = c.size)
    (hh : ∀ (i : Nat) q z, cs[i]? = some q → c[i]? = some z → Rep w O μ q z) : BRep w O μ (.rows cs.length [cs]) (.at b) := by
  refine ⟨c, ty, 0, 0, h, Nat.le_refl _, by simp [hl], fun r hr => by simp at hr; rw [hr], fun i r j p h1 h2 => ?_⟩
  have hi := getElem?_one h1
  subst hi
  simp at h1
  subst h1
  have hj : j < c.size := by rw [← hl]; exact (List.getElem?_eq_some_iff.1 h2).1
  exact ⟨c[j], by simp [hj], hh j p _ h2 (by simp [hj])⟩

theorem run_newVar (t : TypeId) (v : Value) (w : World) : (newVar t v).run P w = .ok ⟨w.heap.size, 0, none⟩ (pushW w (.cells v.cells t)) := by
  simp only [newVar, newRow, newObj]
  rfl

theorem ok_box {o : Oper} {A : Nat → PV} {t : TypeId} {x : Operand} {nx : Nat} (ho : o.op = .box t x) (hc : layable (ev A x) = true) :
    OpOK Γ P o A ⟨.op (cellsOf (ev A x)).length nx 0 0, [(nx, .fresh)], [(nx, .live (.rows (cellsOf (ev A x)).length [cellsOf (ev A x)]))]⟩ := by
  intro F μ σ a w hs ht hrd
  have h1 := ev_of ht (x := x) (by rw [ho]; simp [Op.operands])
  have hf : σ nx = .fresh := hrd (nx, .fresh) (List.mem_cons_self ..)
  have hrun : (execOp a.eval o).run P w = .ok (.value (.pointer (some ⟨w.heap.size, 0, none⟩))) (pushW w (.cells (a.eval x).cells t)) := by
    simp only [execOp, ho, Instr.box]
    simp only [Sem.run_bind, run_newVar, Result.andThen, Sem.run_pure]
  rw [hrun]
  have h2 := rep_new (t := nx) (B := .rows (cellsOf (ev A x)).length [cellsOf (ev A x)]) (o := .cells (a.eval x).cells t) hs hf h1
  obtain ⟨hl, hh⟩ := h2.cells hc
  obtain ⟨k1, k2, k3⟩ := srel_new hs hf (brep_one pushW_new hl hh)
  exact ⟨_, k1, rep_ptr0 (upd_same _ _ _), k2, k3⟩

theorem run_zeroValue {t : TypeId} {z : Value} (h : (P.info? t).bind (·.zero) = some z) (w : World) : (zeroValue t).run P w = .ok z w := by
  simp only [Option.bind_eq_some_iff] at h
  obtain ⟨i, hi, hz⟩ := h
  simp only [zeroValue]
  rw [Sem.run_bind, run_typeInfo hi]
  simp [Result.andThen, hz]

theorem ok_alloc {o : Oper} {A : Nat → PV} {t : TypeId} {nx : Nat} {cs : List PV} (ho : o.op = .alloc t) (hz : tzero P t = some cs) :
    OpOK Γ P o A ⟨.op cs.length nx 0 0, [(nx, .fresh)], [(nx, .live (.rows cs.length [cs]))]⟩ := by
  intro F μ σ a w hs ht hrd
  have hf : σ nx = .fresh := hrd (nx, .fresh) (List.mem_cons_self ..)
  simp only [tzero, Option.map_eq_some_iff] at hz
  obtain ⟨z, hz, rfl⟩ := hz
  have hrun : (execOp a.eval o).run P w = .ok (.value (.pointer (some ⟨w.heap.size, 0, none⟩))) (pushW w (.cells z.cells t)) := by
    simp only [execOp, ho, Instr.alloc]
    simp only [Sem.run_bind, run_zeroValue hz, Result.andThen, run_newVar, Sem.run_pure]
  rw [hrun]
  have hh : ∀ (w' : World) (O : Nat → Prop) (m : Nat → Mu) (i : Nat) q y, (z.cells.toList.map constCell)[i]? = some q → z.cells[i]? = some y → Rep w' O m q y := fun w' O m i q y h1 h2 => by
    rw [List.getElem?_map] at h1
    have h3 : z.cells.toList[i]? = some y := by simpa using h2
    rw [h3] at h1
    simp at h1
    subst h1
    exact .pure (constCell_rep w' O y)
  obtain ⟨k1, k2, k3⟩ := srel_new (B := .rows (z.cells.toList.map constCell).length [z.cells.toList.map constCell]) (o := .cells z.cells t) hs hf (brep_one pushW_new (by simp) (hh _ _ _))
  exact ⟨_, k1, rep_ptr0 (upd_same _ _ _), k2, k3⟩

/-- A row with some cells turned. -/
def putRow (row : List PV) (off : Nat) (cs : List PV) : List PV := row.take off ++ cs ++ row.drop (off + cs.length)

theorem putRow_length {row cs : List PV} {off : Nat} (h : off + cs.length ≤ row.length) : (putRow row off cs).length = row.length := by
  simp [putRow]; omega
theorem putRow_get {row cs : List PV} {off : Nat} (h : off + cs.length ≤ row.length) (j : Nat) :
    (putRow row off cs)[j]? = if off ≤ j ∧ j < off + cs.length then cs[j - off]? else row[j]? := by
  unfold putRow
  rw [List.append_assoc, List.getElem?_append]
  by_cases h1 : j < off
  · rw [if_pos (by simp; omega), if_neg (by omega), List.getElem?_take, if_pos h1]
  · rw [if_neg (by simp; omega), List.getElem?_append]
    simp only [List.length_take, show min off row.length = off from by omega]
    by_cases h2 : j < off + cs.length
    · rw [if_pos (by omega), if_pos (by omega)]
    · rw [if_neg (by omega), if_neg (by omega), List.getElem?_drop]
      congr 1; omega

theorem ok_store {o : Oper} {A : Nat → PV} {t : TypeId} {x y : Operand} {sz b i off n : Nat} {rs : List (List PV)} {row cs : List PV} (ho : o.op = .store t x y) (hx : ev A x = .op sz b i off)
    (hy : cellsOf (ev A y) = cs) (hlay : layable (ev A y) = true) (hcell : cs.all cellP = true) (hn : tsz P t = some n) (hnl : cs.length = n) (hr : rs[i]? = some row) (hl : off + n ≤ row.length) :
    OpOK Γ P o A ⟨.any, [(b, .live (.rows sz rs))], [(b, .live (.rows sz (rs.set i (putRow row off cs))))]⟩ := by
  intro F μ σ a w hs ht hrd
  have h1 := ev_of ht (x := x) (by rw [ho]; simp [Op.operands])
  have h2 := ev_of ht (x := y) (by rw [ho]; simp [Op.operands])
  rw [hx] at h1
  obtain ⟨hlc, hhc⟩ := h2.cells hlay
  rw [hy] at hlc hhc
  generalize hz : a.eval x = z at h1
  generalize hv : a.eval y = v at h2 hlc hhc
  have hσ : σ b = .live (.rows sz rs) := hrd (b, .live (.rows sz rs)) (List.mem_cons_self ..)
  have hB := hs.live b _ hσ
  cases h1 with
  | pure h => cases h
  | op _ _ _ _ bb hm =>
    rw [hm] at hB
    obtain ⟨c, ty, lo, hi, e1, e2, e3, e4, e5⟩ := hB
    have hi' : i < rs.length := (List.getElem?_eq_some_iff.1 hr).1
    have hrow : row.length = sz := e4 row (List.mem_of_getElem? hr)
    have hfit : i * sz + off + n ≤ c.size := by
      have : (i + 1) * sz ≤ rs.length * sz := Nat.mul_le_mul_right _ hi'
      rw [Nat.add_mul] at this
      omega
    have hvl : v.cells.toList.length = n := by simp [← hlc, hnl]
    have hst := run_storeCells (P := P) bb (i * sz + off) ty lo hi e2 v.cells.toList 0 c w e1 (by rw [hvl]; omega) (fun z hz' => by
      obtain ⟨k, hk⟩ := List.getElem?_of_mem hz'
      have hk' : v.cells[k]? = some z := by simpa using hk
      have hklt : k < cs.length := by rw [hlc]; exact (Array.getElem?_eq_some_iff.1 hk').1
      exact (hhc k cs[k] z (by simp [hklt]) hk').cellV (by simp only [List.all_eq_true] at hcell; exact hcell _ (List.getElem_mem _)))
    have hrun : (execOp a.eval o).run P w = .ok .skip (setBlk w bb (.cells (writeAt c (i * sz + off) v.cells.toList) ty (lo, hi))) := by
      simp only [execOp, ho, Instr.storeAt, hz, hv, Instr.sureAddr, storeVar]
      simp only [Sem.run_bind, Sem.run_pure, Result.andThen, run_sizeOf hn]
      rw [if_neg (by simp; rw [← hlc, hnl])]
      rw [Nat.add_zero] at hst
      rw [hst]
    rw [hrun]
    have hshape : (setBlk w bb (.cells (writeAt c (i * sz + off) v.cells.toList) ty (lo, hi))).shape? bb = w.shape? bb := by
      simp [World.shape?, setBlk_same (lt_of_heap e1), e1, writeAt_size]
    have hkeep : Keeps w (OwnF F μ σ) (setBlk w bb (.cells (writeAt c (i * sz + off) v.cells.toList) ty (lo, hi))) (OwnF F μ σ) :=
      ⟨by rw [setBlk_size]; exact Nat.le_refl _, fun k _ hk => ⟨setBlk_ne fun e => hk (by subst e; exact .inr ⟨b, _, hσ, hm⟩), hk⟩⟩
    have hsh2 : ∀ k, k < w.heap.size → (setBlk w bb (.cells (writeAt c (i * sz + off) v.cells.toList) ty (lo, hi))).shape? k = w.shape? k := fun k _ => by
      by_cases e : k = bb
      · subst e; exact hshape
      · simp only [World.shape?, setBlk_ne e]
    have lift : ∀ {p : PV} {z : Value}, Rep w (OwnF F μ σ) μ p z → Rep (setBlk w bb (.cells (writeAt c (i * sz + off) v.cells.toList) ty (lo, hi))) (OwnF F μ σ) μ p z := fun h => h.mono hkeep hsh2 (MuExt.refl _)
    have hB' : BRep (setBlk w bb (.cells (writeAt c (i * sz + off) v.cells.toList) ty (lo, hi))) (OwnF F μ σ) μ (.rows sz (rs.set i (putRow row off cs))) (.at bb) := by
      refine ⟨_, ty, lo, hi, setBlk_same (lt_of_heap e1), e2, by simpa [writeAt_size] using e3, fun r hr' => ?_, fun i' r j p g1 g2 => ?_⟩
      · rcases List.mem_or_eq_of_mem_set hr' with h | h
        · exact e4 r h
        · rw [h, putRow_length (by omega), hrow]
      · have hget := writeAt_get v.cells.toList c (i * sz + off) (i' * sz + j) (by rw [hvl]; exact hfit)
        rw [hvl] at hget
        rw [hget]
        by_cases e : i' = i
        · subst e
          have : r = putRow row off cs := by
            rw [List.getElem?_set_self hi'] at g1
            exact (Option.some.inj g1).symm
          subst this
          rw [putRow_get (by omega)] at g2
          by_cases hj : off ≤ j ∧ j < off + cs.length
          · rw [if_pos hj] at g2
            rw [if_pos (by omega), show i' * sz + j - (i' * sz + off) = j - off from by omega]
            have hlt : j - off < v.cells.size := by rw [← hlc]; omega
            exact ⟨v.cells[j - off], by simp [hlt], lift (hhc (j - off) p _ g2 (by simp [hlt]))⟩
          · rw [if_neg hj] at g2
            rw [if_neg (by omega)]
            obtain ⟨z', hz1, hz2⟩ := e5 i' row j p hr g2
            exact ⟨z', hz1, lift hz2⟩
        · rw [List.getElem?_set_ne (Ne.symm e)] at g1
          obtain ⟨z', hz1, hz2⟩ := e5 i' r j p g1 g2
          have hrl : r.length = sz := e4 r (List.mem_of_getElem? g1)
          have hjl : j < sz := by rw [← hrl]; exact (List.getElem?_eq_some_iff.1 g2).1
          rw [if_neg (by
            rintro ⟨q1, q2⟩
            rcases Nat.lt_or_ge i' i with hlt | hge
            · have : (i' + 1) * sz ≤ i * sz := Nat.mul_le_mul_right _ hlt
              rw [Nat.add_mul] at this; omega
            · have : (i + 1) * sz ≤ i' * sz := Nat.mul_le_mul_right _ (by omega)
              rw [Nat.add_mul] at this; omega)]
          exact ⟨z', hz1, lift hz2⟩
    obtain ⟨k1, k2⟩ := srel_set hs hσ hm hshape hB'
    exact ⟨μ, k1, .any _, k2, MuExt.refl _⟩

end Go.Am
/- Indexes, lengths, literals of structs and slices, slicing. -/
namespace Go.Am
variable {Γ : Nat → Option Obj} {P : Program}

mutual
/-- It leads to no block of the call's own. -/
def isP : PV → Bool
  | .v _ => true
  | .sl _ _ => true
  | .ip _ => true
  | .agg cs => isPL cs
  | .tup cs => isPL cs
  | .fn _ first caps => isPL first && isPL caps
  | .ifc _ x => isP x
  | .op _ _ _ _ => false
  | .os _ _ _ _ => false
  | .oa _ _ _ _ _ => false
  | .om _ => false
  | .any => false
def isPL : List PV → Bool
  | [] => true
  | x :: xs => isP x && isPL xs
end
theorem isPL_eq (l : List PV) : isPL l = l.all isP := by
  induction l with
  | nil => rfl
  | cons x xs ih => simp [isPL, ih]

theorem Rep.isP {w : World} {O : Nat → Prop} {μ : Nat → Mu} {p : PV} {y : Value} (h : Rep w O μ p y) (hp : isP p = true) : PRep w O p y := by
  induction h with
  | pure h => exact h
  | agg cs ys hl _ ih =>
    simp only [Am.isP, isPL_eq, List.all_eq_true] at hp
    exact .agg cs ys hl fun i p y h1 h2 => ih i p y h1 h2 (hp p (List.mem_of_getElem? h1))
  | tup cs ys hl _ ih =>
    simp only [Am.isP, isPL_eq, List.all_eq_true] at hp
    exact .tup cs ys hl fun i p y h1 h2 => ih i p y h1 h2 (hp p (List.mem_of_getElem? h1))
  | fn f first caps xs ys hl hl' _ _ ih ih' =>
    simp only [Am.isP, isPL_eq, Bool.and_eq_true, List.all_eq_true] at hp
    exact .fn f first caps xs ys hl hl' (fun i p y h1 h2 => ih i p y h1 h2 (hp.1 p (List.mem_of_getElem? h1))) (fun i p y h1 h2 => ih' i p y h1 h2 (hp.2 p (List.mem_of_getElem? h1)))
  | ifc ty p y _ ih => exact .ifc ty p y (ih (by simpa [Am.isP] using hp))
  | _ => simp [Am.isP] at hp

theorem sel_spec {t : TypeId} {s : Nat} (h : sel P t = some s) : ∃ e, P.underlying t = some (.slice e) ∧ tsz P e = some s := by
  unfold sel at h
  split at h
  · rename_i e he; exact ⟨e, he, h⟩
  · cases h
theorem ael_spec {t : TypeId} {n s : Nat} (h : ael P t = some (n, s)) : ∃ e, P.underlying t = some (.array n e) ∧ tsz P e = some s := by
  unfold ael at h
  split at h
  · rename_i n' e he
    simp only [Option.map_eq_some_iff, Prod.mk.injEq] at h
    obtain ⟨s', h1, rfl, rfl⟩ := h
    exact ⟨e, he, h1⟩
  · cases h

theorem run_index_slice {t : TypeId} {s b o n cap : Nat} {k : IntKind} {i : Int} (h : sel P t = some s) (h0 : 0 ≤ i) (h1 : i < n) (w : World) :
    (Instr.indexAt t (.slice (some ⟨b, o, none⟩) n cap) (.int k i)).run P w = .ok (.pointer (some ⟨b, o + i.toNat * s, none⟩)) w := by
  obtain ⟨e, he, hs⟩ := sel_spec h
  simp only [Instr.indexAt, asIntOf, Sem.run_bind, Sem.run_pure, Result.andThen, run_underlying he]
  rw [if_pos ⟨h0, h1⟩]
  simp only [Sem.run_bind, run_sizeOf hs, Result.andThen, Sem.run_pure, addr_add]

theorem run_index_array {t : TypeId} {s b o n : Nat} {k : IntKind} {i : Int} (h : ael P t = some (n, s)) (h0 : 0 ≤ i) (h1 : i < n) (w : World) :
    (Instr.indexAt t (.pointer (some ⟨b, o, none⟩)) (.int k i)).run P w = .ok (.pointer (some ⟨b, o + i.toNat * s, none⟩)) w := by
  obtain ⟨e, he, hs⟩ := ael_spec h
  simp only [Instr.indexAt, asIntOf, Sem.run_bind, Sem.run_pure, Result.andThen, run_underlying he, Instr.sureAddr]
  rw [if_pos ⟨h0, h1⟩]
  simp only [Sem.run_bind, run_sizeOf hs, Result.andThen, Sem.run_pure, addr_add]

theorem ok_indexAddr_sl {o : Oper} {A : Nat → PV} {t : TypeId} {x ix : Operand} {s : Nat} {k : IntKind} {i : Int} {full : Bool} {rows : List (List PV)} (ho : o.op = .indexAddr t x ix)
    (hx : ev A x = .sl full rows) (hi : ev A ix = .v (.int k i)) (h : sel P t = some s) (h0 : 0 ≤ i) {row : List PV} (hget : rows[i.toNat]? = some row) (hrow : row.length = s) :
    OpOK Γ P o A ⟨.ip row, [], []⟩ :=
  .value fun F μ σ a w _ ht _ => by
    have e1 := ev_of ht (x := x) (by rw [ho]; simp [Op.operands])
    have e2 := ev_of_v ht (x := ix) (by rw [ho]; simp [Op.operands]) hi
    rw [hx] at e1
    generalize hz : a.eval x = z at e1
    have hlt : i.toNat < rows.length := (List.getElem?_eq_some_iff.1 hget).1
    have h1 : i < rows.length := by omega
    cases e1 with
    | pure h' => cases h' with
      | nil _ _ _ _ => simp at h1; omega
      | sl _ _ sz b off cap vs hsz hcap hlen hf hO hb hc hr =>
        have hs : sz = s := by rw [← hrow]; exact (hsz _ (List.mem_of_getElem? hget)).symm
        subst hs
        refine ⟨.pointer (some ⟨b, off + i.toNat * sz, none⟩), ?_, .pure (.ip _ b (off + i.toNat * sz) (vs i.toNat) hO hb (fun j p hj => ?_) (fun j p hj => hr _ _ j p hget hj))⟩
        · simp only [execOp, ho, hz, e2]
          rw [Sem.run_bind, run_index_slice h h0 h1]; rfl
        · rw [Nat.add_assoc]; exact hc _ _ j p hget hj

theorem ok_indexAddr_os {o : Oper} {A : Nat → PV} {t : TypeId} {x ix : Operand} {s b j n : Nat} {k : IntKind} {i : Int} (ho : o.op = .indexAddr t x ix)
    (hx : ev A x = .os s b j n) (hi : ev A ix = .v (.int k i)) (h : sel P t = some s) (h0 : 0 ≤ i) (h1 : i < n) :
    OpOK Γ P o A ⟨.op s b (j + i.toNat) 0, [], []⟩ :=
  .value fun F μ σ a w _ ht _ => by
    have e1 := ev_of ht (x := x) (by rw [ho]; simp [Op.operands])
    have e2 := ev_of_v ht (x := ix) (by rw [ho]; simp [Op.operands]) hi
    rw [hx] at e1
    generalize hz : a.eval x = z at e1
    cases e1 with
    | pure h' => cases h'
    | os _ _ _ _ bb cap hm hn hlen hs =>
      refine ⟨.pointer (some ⟨bb, j * s + i.toNat * s, none⟩), ?_, ?_⟩
      · simp only [execOp, ho, hz, e2]
        rw [Sem.run_bind, run_index_slice h h0 h1]; rfl
      · have := Rep.op (w := w) (O := OwnF F μ σ) s b (j + i.toNat) 0 bb hm
        rw [Nat.add_mul] at this
        simpa using this
    | ph _ _ _ hm => simp at h1; omega

theorem ok_indexAddr_oa {o : Oper} {A : Nat → PV} {t : TypeId} {x ix : Operand} {sz b j off n : Nat} {k : IntKind} {i : Int} (ho : o.op = .indexAddr t x ix)
    (hx : ev A x = .oa sz b j off n) (hi : ev A ix = .v (.int k i)) (h : sel P t = some 1) (h0 : 0 ≤ i) (h1 : i < n) :
    OpOK Γ P o A ⟨.op sz b j (off + i.toNat), [], []⟩ :=
  .value fun F μ σ a w _ ht _ => by
    have e1 := ev_of ht (x := x) (by rw [ho]; simp [Op.operands])
    have e2 := ev_of_v ht (x := ix) (by rw [ho]; simp [Op.operands]) hi
    rw [hx] at e1
    generalize hz : a.eval x = z at e1
    cases e1 with
    | pure h' => cases h'
    | oa _ _ _ _ _ bb cap hm hn hlen =>
      refine ⟨.pointer (some ⟨bb, j * sz + off + i.toNat * 1, none⟩), ?_, ?_⟩
      · simp only [execOp, ho, hz, e2]
        rw [Sem.run_bind, run_index_slice h h0 h1]; rfl
      · rw [Nat.mul_one, Nat.add_assoc]; exact .op sz b j (off + i.toNat) bb hm

theorem ok_indexAddr_op {o : Oper} {A : Nat → PV} {t : TypeId} {x ix : Operand} {sz b j off n s : Nat} {k : IntKind} {i : Int} (ho : o.op = .indexAddr t x ix)
    (hx : ev A x = .op sz b j off) (hi : ev A ix = .v (.int k i)) (h : ael P t = some (n, s)) (h0 : 0 ≤ i) (h1 : i < n) :
    OpOK Γ P o A ⟨.op sz b j (off + i.toNat * s), [], []⟩ :=
  .value fun F μ σ a w _ ht _ => by
    have e1 := ev_of ht (x := x) (by rw [ho]; simp [Op.operands])
    have e2 := ev_of_v ht (x := ix) (by rw [ho]; simp [Op.operands]) hi
    rw [hx] at e1
    generalize hz : a.eval x = z at e1
    cases e1 with
    | pure h' => cases h'
    | op _ _ _ _ bb hm =>
      refine ⟨.pointer (some ⟨bb, j * sz + off + i.toNat * s, none⟩), ?_, ?_⟩
      · simp only [execOp, ho, hz, e2]
        rw [Sem.run_bind, run_index_array h h0 h1]; rfl
      · rw [Nat.add_assoc]; exact .op sz b j _ bb hm

theorem ok_indexAddr_ip {o : Oper} {A : Nat → PV} {t : TypeId} {x ix : Operand} {n s : Nat} {k : IntKind} {i : Int} {cs : List PV} (ho : o.op = .indexAddr t x ix)
    (hx : ev A x = .ip cs) (hi : ev A ix = .v (.int k i)) (h : ael P t = some (n, s)) (h0 : 0 ≤ i) (h1 : i < n) :
    OpOK Γ P o A ⟨.ip (cs.drop (i.toNat * s)), [], []⟩ :=
  .value fun F μ σ a w _ ht _ => by
    have e1 := ev_of ht (x := x) (by rw [ho]; simp [Op.operands])
    have e2 := ev_of_v ht (x := ix) (by rw [ho]; simp [Op.operands]) hi
    rw [hx] at e1
    generalize hz : a.eval x = z at e1
    cases e1 with
    | pure h' => cases h' with
      | ip _ bb oo vs hO hb hc hr =>
        refine ⟨.pointer (some ⟨bb, oo + i.toNat * s, none⟩), ?_, .pure (.ip _ bb _ (fun j => vs (i.toNat * s + j)) hO hb (fun j p hj => ?_) (fun j p hj => ?_))⟩
        · simp only [execOp, ho, hz, e2]
          rw [Sem.run_bind, run_index_array h h0 h1]; rfl
        · rw [List.getElem?_drop] at hj
          rw [Nat.add_assoc]; exact hc _ p hj
        · rw [List.getElem?_drop] at hj; exact hr _ p hj

/-- A slice's length. -/
def lenP : PV → Option Nat
  | .sl _ rows => some rows.length
  | .os _ _ _ n => some n
  | .oa _ _ _ _ n => some n
  | _ => none

theorem lenP_rep {w : World} {O : Nat → Prop} {μ : Nat → Mu} {p : PV} {y : Value} {n : Nat} (h : Rep w O μ p y) (hn : lenP p = some n) : ∃ a cap, y = .slice a n cap := by
  cases p with
  | sl full rows =>
    simp [lenP] at hn
    subst hn
    cases h with
    | pure h => cases h with
      | nil _ a cap _ => exact ⟨a, cap, rfl⟩
      | sl _ _ _ b off cap _ _ _ _ _ _ _ _ _ => exact ⟨_, cap, rfl⟩
  | os sz t i m =>
    simp [lenP] at hn
    subst hn
    cases h with
    | pure h => cases h
    | os _ _ _ _ b cap _ _ _ _ => exact ⟨_, cap, rfl⟩
    | ph _ _ a _ => exact ⟨a, 0, rfl⟩
  | oa sz t i off m =>
    simp [lenP] at hn
    subst hn
    cases h with
    | pure h => cases h
    | oa _ _ _ _ _ b cap _ _ _ => exact ⟨_, cap, rfl⟩
  | _ => simp [lenP] at hn

theorem run_builtin {ρ : Operand → Value} {o : Oper} {b : Builtin} {args : Array Operand} {ts : Array TypeId} (ho : o.op = .call { callee := .builtin b, args := args, argTypes := ts }) (w : World) :
    (execOp ρ o).run P w = (builtin b ts o.type (args.map fun | .const _ => true | _ => false) (args.map ρ)).run P w := by
  simp only [execOp, ho, resolve, Sem.run_bind, Sem.run_pure, Result.andThen, invoke]
  rfl

theorem run_builtin' {ρ : Operand → Value} {o : Oper} {b : Builtin} {args : Array Operand} {ts : Array TypeId} (ho : o.op = .call { callee := .builtin b, args := args, argTypes := ts }) (w : World) :
    ∃ kc : Array Bool, (execOp ρ o).run P w = (builtin b ts o.type kc (args.map ρ)).run P w := ⟨_, run_builtin ho w⟩

theorem ok_len {o : Oper} {A : Nat → PV} {x : Operand} {ts : Array TypeId} {t : TypeId} {s n : Nat} (ho : o.op = .call { callee := .builtin .len, args := #[x], argTypes := ts }) (hts : ts[0]? = some t)
    (hs : sel P t = some s) (hn : lenP (ev A x) = some n) : OpOK Γ P o A ⟨.v (.int .i64 n), [], []⟩ :=
  .value fun F μ σ a w _ ht _ => by
    have e1 := ev_of ht (x := x) (by rw [ho]; simp [Op.operands, Call.operands])
    obtain ⟨e, he, _⟩ := sel_spec hs
    obtain ⟨b, cap, hy⟩ := lenP_rep e1 hn
    refine ⟨.int .i64 n, ?_, .pure (.v _)⟩
    rw [run_builtin ho]
    simp only [builtin, Builtin.len_, hts, List.map_toArray, List.map_cons, List.map_nil, hy]
    simp [Sem.run_bind, run_underlying he, Result.andThen, goInt]

theorem ok_nilCheck {o : Oper} {A : Nat → PV} {x : Operand} (ho : o.op = .nilCheck x) (hx : (∃ sz t i off, ev A x = .op sz t i off) ∨ (∃ cs, ev A x = .ip cs) ∨ (∃ f xs ys, ev A x = .fn (.func f) xs ys)) :
    OpOK Γ P o A ⟨ev A x, [], []⟩ :=
  .value fun F μ σ a w _ ht _ => by
    have e1 := ev_of ht (x := x) (by rw [ho]; simp [Op.operands])
    refine ⟨a.eval x, ?_, e1⟩
    rcases hx with ⟨sz, t, i, off, hx⟩ | ⟨cs, hx⟩ | ⟨f, xs, ys, hx⟩ <;> rw [hx] at e1 <;> generalize hz : a.eval x = z at e1
    · cases e1 with
      | pure h => cases h
      | op _ _ _ _ b hm => simp [execOp, ho, hz]
    · cases e1 with
      | pure h => cases h with
        | ip _ b off vs _ _ _ _ => simp [execOp, ho, hz]
    · cases e1 with
      | pure h => cases h with
        | fn _ _ _ _ _ _ _ _ _ => simp [execOp, ho, hz]
      | fn _ _ _ _ _ _ _ _ _ => simp [execOp, ho, hz]

/-! ### Literals -/
def fillA (pl : Nat → Option (Nat × Nat)) : List PV → List (Nat × PV) → Option (List PV)
  | cs, [] => some cs
  | cs, (i, p) :: r => match pl i with
    | some (off, n) => if (cellsOf p).length = n ∧ off + n ≤ cs.length ∧ layable p = true then fillA pl (putRow cs off (cellsOf p)) r else none
    | none => none

theorem foldl_set (v : Array Value) (off : Nat) (c : Array Value) (k : Nat) (h : off + v.size ≤ c.size) :
    (v.zipIdx.foldl (fun cs (x, j) => cs.setIfInBounds (off + j) x) c)[k]? = if off ≤ k ∧ k < off + v.size then v[k - off]? else c[k]? := by
  have key : ∀ (l : List Value) (n : Nat) (c : Array Value), off + n + l.length ≤ c.size →
      (l.zipIdx n).foldl (fun cs (x : Value × Nat) => cs.setIfInBounds (off + x.2) x.1) c = writeAt c (off + n) l := by
    intro l
    induction l with
    | nil => intro n c _; rfl
    | cons x l ih =>
      intro n c hc
      simp only [List.length_cons] at hc
      simp only [List.zipIdx_cons, List.foldl_cons, writeAt]
      rw [ih (n + 1) _ (by simp; omega)]
      rw [Nat.add_assoc]
  have e : v.zipIdx.foldl (fun cs (x, j) => cs.setIfInBounds (off + j) x) c = writeAt c (off + 0) v.toList := by
    rw [← Array.foldl_toList, Array.toList_zipIdx]
    exact key v.toList 0 c (by simpa using h)
  rw [e, Nat.add_zero, writeAt_get _ _ _ _ (by simpa using h)]
  simp

theorem foldl_set_size (v : Array Value) (off : Nat) (c : Array Value) : (v.zipIdx.foldl (fun cs (x, j) => cs.setIfInBounds (off + j) x) c).size = c.size := by
  rw [← Array.foldl_toList]
  generalize v.zipIdx.toList = l
  induction l generalizing c with
  | nil => rfl
  | cons x l ih => simp only [List.foldl_cons]; rw [ih]; simp

theorem fill_rep {w : World} {O : Nat → Prop} {μ : Nat → Mu} (pl : Nat → Option (Nat × Nat)) : ∀ (ps : List (Nat × PV)) (vs : List (Nat × Value)) (cs : List PV) (c : Array Value) (out : List PV),
    fillA pl cs ps = some out → ps.map (·.1) = vs.map (·.1) → (∀ (i : Nat) p v, ps[i]? = some p → vs[i]? = some v → Rep w O μ p.2 v.2) →
    cs.length = c.size → (∀ (i : Nat) p y, cs[i]? = some p → c[i]? = some y → Rep w O μ p y) →
    ∃ c', Instr.fill pl c vs = some c' ∧ out.length = c'.size ∧ ∀ (i : Nat) p y, out[i]? = some p → c'[i]? = some y → Rep w O μ p y := by
  intro ps
  induction ps with
  | nil =>
    intro vs cs c out h hm _ hl hh
    cases vs with
    | nil => simp [fillA] at h; subst h; exact ⟨c, rfl, hl, hh⟩
    | cons v vs => simp at hm
  | cons p ps ih =>
    intro vs cs c out h hm hr hl hh
    obtain ⟨i, p⟩ := p
    cases vs with
    | nil => simp at hm
    | cons v vs =>
      obtain ⟨i', v⟩ := v
      simp only [List.map_cons, List.cons.injEq] at hm
      obtain ⟨rfl, hm⟩ := hm
      simp only [fillA] at h
      split at h
      · rename_i off n hpl
        split at h
        · rename_i hc
          obtain ⟨h1, h2, h3⟩ := hc
          have hv : Rep w O μ p v := hr 0 (i, p) (i, v) rfl rfl
          obtain ⟨hvl, hvc⟩ := Rep.cells hv h3
          have hfit : off + v.cells.size ≤ c.size := by rw [← hvl, h1, ← hl]; exact h2
          obtain ⟨c', hf, hl', hh'⟩ := ih vs (putRow cs off (cellsOf p)) (v.cells.zipIdx.foldl (fun cs (x, j) => cs.setIfInBounds (off + j) x) c) out h hm
            (fun k q z g1 g2 => hr (k + 1) q z (by simpa using g1) (by simpa using g2)) (by rw [foldl_set_size, putRow_length (by omega), hl]) (fun k q y g1 g2 => by
              rw [putRow_get (by omega)] at g1
              rw [foldl_set _ _ _ _ hfit, ← hvl] at g2
              by_cases hk : off ≤ k ∧ k < off + (cellsOf p).length
              · rw [if_pos hk] at g1 g2; exact hvc _ q y g1 g2
              · rw [if_neg hk] at g1 g2; exact hh k q y g1 g2)
          refine ⟨c', ?_, hl', hh'⟩
          simp only [Instr.fill, hpl]
          rw [if_neg (by simp; omega)]
          exact hf
        · cases h
      · cases h

/-- Where a part of a struct or an array begins, and its cells. -/
def plc (P : Program) (t : TypeId) (i : Nat) : Option (Nat × Nat) :=
  match P.underlying t with
  | some (.struct fs) => match fs[i]? with
    | some fd => (tsz P fd.type).map fun n => (fd.offset, n)
    | none => none
  | some (.array _ e) => (tsz P e).map fun s => (i * s, s)
  | _ => none

/-- All fields of a struct have a size that is known. -/
def fieldsOK (P : Program) (t : TypeId) : Bool :=
  match P.underlying t with
  | some (.struct fs) => fs.toList.all fun (fd : Field) => (tsz P fd.type).isSome
  | some (.array _ e) => (tsz P e).isSome
  | _ => false

theorem run_places (fs : Array Field) (h : fs.toList.all (fun fd : Field => (tsz P fd.type).isSome) = true) (w : World) :
    ∃ ps : Array (Nat × Nat), (fs.mapM fun (f : Field) => do pure (f.offset, ← sizeOf f.type) : Sem (Array (Nat × Nat))).run P w = .ok ps w ∧
      ∀ i : Nat, ps[i]? = (match (fs[i]? : Option Field) with | some fd => (tsz P fd.type).map fun n => (fd.offset, n) | none => none) := by
  rw [Array.mapM_eq_mapM_toList]
  have key : ∀ l : List Field, l.all (fun fd : Field => (tsz P fd.type).isSome) = true →
      ∃ ps : List (Nat × Nat), (l.mapM fun (f : Field) => do pure (f.offset, ← sizeOf f.type) : Sem (List (Nat × Nat))).run P w = .ok ps w ∧
        ∀ i : Nat, ps[i]? = (match (l[i]? : Option Field) with | some fd => (tsz P fd.type).map fun n => (fd.offset, n) | none => none) := by
    intro l
    induction l with
    | nil => intro _; exact ⟨[], by simp, fun i => by simp⟩
    | cons f l ih =>
      intro hl
      simp only [List.all_cons, Bool.and_eq_true] at hl
      obtain ⟨n, hn⟩ := Option.isSome_iff_exists.1 hl.1
      obtain ⟨ps, h1, h2⟩ := ih hl.2
      refine ⟨(f.offset, n) :: ps, ?_, fun i => ?_⟩
      · simp only [List.mapM_cons, Sem.run_bind, run_sizeOf hn, Result.andThen, Sem.run_pure, h1]
      · cases i with
        | zero => simp [hn]
        | succ i => simpa using h2 i
  obtain ⟨ps, h1, h2⟩ := key fs.toList h
  refine ⟨ps.toArray, ?_, fun i => ?_⟩
  · rw [map_eq_pure_bind, Sem.run_bind, h1]; rfl
  · simpa using h2 i

theorem ok_build {o : Oper} {A : Nat → PV} {t : TypeId} {parts : Array (Nat × Operand)} {zs out : List PV} (ho : o.op = .build t parts) (hz : tzero P t = some zs) (hf : fieldsOK P t = true)
    (h : fillA (plc P t) zs (parts.toList.map fun p => (p.1, ev A p.2)) = some out) : OpOK Γ P o A ⟨.agg out, [], []⟩ :=
  .value fun F μ σ a w _ ht _ => by
    simp only [tzero, Option.map_eq_some_iff] at hz
    obtain ⟨z, hz, rfl⟩ := hz
    obtain ⟨c', g1, g2, g3⟩ := fill_rep (w := w) (O := OwnF F μ σ) (μ := μ) (plc P t) _ (parts.toList.map fun p => (p.1, a.eval p.2)) _ z.cells out h (by simp [Function.comp_def])
      (fun i p v h1 h2 => by
        simp only [List.getElem?_map] at h1 h2
        cases hq : parts.toList[i]? with
        | none => simp [hq] at h1
        | some q =>
          simp only [hq, Option.map_some, Option.some.injEq] at h1 h2
          subst h1 h2
          exact ev_of ht (by rw [ho]; simp [Op.operands]; exact ⟨q.1, by simpa using List.mem_of_getElem? hq⟩)) (by simp) (fun i p y h1 h2 => by
        rw [List.getElem?_map] at h1
        have h3 : z.cells.toList[i]? = some y := by simpa using h2
        rw [h3] at h1
        simp at h1
        subst h1
        exact .pure (constCell_rep _ _ y))
    refine ⟨.agg c', ?_, .agg _ _ g2 g3⟩
    simp only [execOp, ho, Instr.build, Sem.run_bind, run_zeroValue hz, Result.andThen]
    unfold fieldsOK at hf
    have hmap : (parts.map fun x => (x.1, a.eval x.2)).toList = parts.toList.map fun p => (p.1, a.eval p.2) := by simp
    split at hf
    · rename_i fs hu
      obtain ⟨ps, p1, p2⟩ := run_places fs hf w
      have hfun : (fun x => ps[x]?) = plc P t := by
        funext i; rw [p2 i]; unfold plc; rw [hu]
      simp only [run_underlying hu]
      rw [Sem.run_bind, p1]
      simp only [Result.andThen, hmap, hfun, g1, Sem.run_pure]
    · rename_i n e hu
      obtain ⟨s, hs⟩ := Option.isSome_iff_exists.1 hf
      have hfun : (fun i => some (i * s, s)) = plc P t := by
        funext i; unfold plc; rw [hu]; simp [hs]
      simp only [run_underlying hu]
      rw [Sem.run_bind, run_sizeOf hs]
      simp only [Result.andThen, hmap, hfun, g1, Sem.run_pure]
    · cases hf

end Go.Am
/- Slices: literals, slicing, make, append, copy. -/
namespace Go.Am
variable {Γ : Nat → Option Obj} {P : Program}

/-! ### A block that nobody owns -/
theorem srel_push {F : Nat → Prop} {μ : Nat → Mu} {σ : Nat → Slot} {w : World} (h : SRel Γ F w μ σ) (o : Obj) : SRel Γ F (pushW w o) μ σ ∧ Ext w (Own μ σ) (pushW w o) (Own μ σ) := by
  have hsz : w.heap.size ≤ (pushW w o).heap.size := by simp [pushW]
  have hshape : ∀ c, c < w.heap.size → (pushW w o).shape? c = w.shape? c := fun c hc => by simp only [World.shape?, pushW_old hc]
  have hk : Keeps w (OwnF F μ σ) (pushW w o) (OwnF F μ σ) := ⟨hsz, fun c hc hO => ⟨pushW_old hc, hO⟩⟩
  exact ⟨⟨h.fresh, fun t B ht => brep_keep hk hshape (MuExt.refl _) (fun b hb => pushW_old (own_lt h ⟨t, B, ht, hb⟩)) (h.live t B ht), h.inj, h.notF, fun b hb => Nat.lt_of_lt_of_le (h.ffin b hb) hsz,
    fun b o' hb => ⟨(pushW_old (lt_of_heap (h.gam b o' hb).1)).trans (h.gam b o' hb).1, (h.gam b o' hb).2⟩⟩, ⟨hsz, fun c hc hO => ⟨pushW_old hc, hO⟩, hshape, rfl, rfl⟩⟩

theorem rep_push {F : Nat → Prop} {μ : Nat → Mu} {σ : Nat → Slot} {w : World} {o : Obj} {p : PV} {y : Value} (hr : Rep w (OwnF F μ σ) μ p y) : Rep (pushW w o) (OwnF F μ σ) μ p y :=
  hr.mono ⟨by simp [pushW], fun c hc hO => ⟨pushW_old hc, hO⟩⟩ (fun c hc => by simp only [World.shape?, pushW_old hc]) (MuExt.refl _)

/-! ### Rows out of cells -/
def zfill (zs : List PV) : Nat → List PV
  | 0 => []
  | n + 1 => zs ++ zfill zs n

def chunk (sz : Nat) : Nat → List PV → List (List PV)
  | 0, _ => []
  | n + 1, l => l.take sz :: chunk sz n (l.drop sz)

theorem chunk_length (sz : Nat) : ∀ (n : Nat) (l : List PV), (chunk sz n l).length = n
  | 0, _ => rfl
  | n + 1, l => by simp [chunk, chunk_length sz n]

theorem chunk_get (sz : Nat) : ∀ (n : Nat) (l : List PV) (i : Nat) (r : List PV), (chunk sz n l)[i]? = some r → i < n ∧ r = (l.drop (i * sz)).take sz
  | 0, _, i, r, h => by simp [chunk] at h
  | n + 1, l, 0, r, h => by simp [chunk] at h; simp [h]
  | n + 1, l, i + 1, r, h => by
    have h1 := chunk_get sz n (l.drop sz) i r (by simpa [chunk] using h)
    refine ⟨by omega, ?_⟩
    rw [h1.2, List.drop_drop]
    congr 2
    rw [Nat.add_mul]; omega

theorem zfill_length (zs : List PV) (n : Nat) : (zfill zs n).length = n * zs.length := by
  induction n with
  | zero => simp [zfill]
  | succ n ih => simp [zfill, ih, Nat.add_mul]; omega

theorem zfill_get (zs : List PV) (n k : Nat) (h : k < n * zs.length) : (zfill zs n)[k]? = zs[k % zs.length]? := by
  induction n generalizing k with
  | zero => simp at h
  | succ n ih =>
    simp only [zfill]
    rw [List.getElem?_append]
    split
    · rename_i h1; rw [Nat.mod_eq_of_lt h1]
    · rename_i h1
      rw [Nat.add_mul] at h
      rw [ih _ (by omega)]
      congr 1
      exact (Nat.mod_eq_sub_mod (by omega)).symm

/-- The cells of zero values. -/
theorem zero_cells {z : Array Value} {n : Nat} (i : Nat) (p : PV) (y : Value) {w : World} {O : Nat → Prop} {μ : Nat → Mu}
    (h1 : (zfill (z.toList.map constCell) n)[i]? = some p) (h2 : ((Array.range (n * z.size)).map fun k => z[k % z.size]!)[i]? = some y) : Rep w O μ p y := by
  have hi : i < n * z.size := by
    have := (Array.getElem?_eq_some_iff.1 h2).1
    simpa using this
  rw [zfill_get _ _ _ (by simpa using hi)] at h1
  simp only [List.length_map, Array.length_toList, List.getElem?_map, Array.getElem?_toList] at h1
  have hpos : 0 < z.size := by
    rcases Nat.eq_zero_or_pos z.size with h | h
    · rw [h] at hi; simp at hi
    · exact h
  have hm : i % z.size < z.size := Nat.mod_lt _ hpos
  simp [hi, hm] at h1 h2
  subst h1 h2
  exact .pure (constCell_rep _ _ _)

/-- A literal of a slice: what its cells come to. -/
theorem run_buildSlice {o : Oper} {A : Nat → PV} {a : Act} {t e : TypeId} {len sz : Nat} {parts : Array (Nat × Operand)} {zs out : List PV} {w : World} {O : Nat → Prop} {μ : Nat → Mu}
    (ho : o.op = .buildSlice t len parts) (ht : ∀ t, Operand.tmp t ∈ o.op.operands.toList → Rep w O μ (A t) (a.tmps.getD t undef)) (hu : P.underlying t = some (.slice e)) (hs : tsz P e = some sz)
    (hz : tzero P e = some zs) (hzl : zs.length = sz) (hb : len * sz ≤ 16777216)
    (h : fillA (fun i => some (i * sz, sz)) (zfill zs len) (parts.toList.map fun p => (p.1, ev A p.2)) = some out) :
    ∃ c, (execOp a.eval o).run P w = .ok (.value (.slice (some ⟨w.heap.size, 0, none⟩) len len)) (pushW w (.cells c e)) ∧ out.length = c.size ∧ c.size = len * sz ∧
      ∀ (i : Nat) p y, out[i]? = some p → c[i]? = some y → Rep w O μ p y := by
  simp only [tzero, Option.map_eq_some_iff] at hz
  obtain ⟨z, hz, rfl⟩ := hz
  simp only [List.length_map, Array.length_toList] at hzl
  subst hzl
  let c0 : Array Value := (Array.range (len * z.cells.size)).map fun k => (if len * z.cells.size = 0 then #[] else z.cells)[k % (if len * z.cells.size = 0 then #[] else z.cells).size]!
  have hc0 : c0 = (Array.range (len * z.cells.size)).map fun k => z.cells[k % z.cells.size]! := by
    by_cases h0 : len * z.cells.size = 0
    · simp [c0, h0]
    · simp only [c0, h0, if_false]
  obtain ⟨c', g1, g2, g3⟩ := fill_rep (w := w) (O := O) (μ := μ) (fun i => some (i * z.cells.size, z.cells.size)) _ (parts.toList.map fun p => (p.1, a.eval p.2)) _ c0 out h (by simp [Function.comp_def])
    (fun i p v h1 h2 => by
      simp only [List.getElem?_map] at h1 h2
      cases hq : parts.toList[i]? with
      | none => simp [hq] at h1
      | some q =>
        simp only [hq, Option.map_some, Option.some.injEq] at h1 h2
        subst h1 h2
        exact ev_of ht (by rw [ho]; simp [Op.operands]; exact ⟨q.1, by simpa using List.mem_of_getElem? hq⟩)) (by rw [hc0]; simp [zfill_length]) (fun i p y h1 h2 => by rw [hc0] at h2; exact zero_cells i p y h1 h2)
  have hsz : ∀ (ps : List (Nat × Value)) (c c' : Array Value), Instr.fill (fun i => some (i * z.cells.size, z.cells.size)) c ps = some c' → c'.size = c.size := by
    intro ps
    induction ps with
    | nil => intro c c' h; simp [Instr.fill] at h; rw [h]
    | cons p ps ih =>
      intro c c' h
      obtain ⟨i, v⟩ := p
      simp only [Instr.fill] at h
      split at h
      · cases h
      · rw [ih _ _ h, foldl_set_size]
  have hmap : (parts.map fun x => (x.1, a.eval x.2)).toList = parts.toList.map fun p => (p.1, a.eval p.2) := by simp
  refine ⟨c', ?_, g2, by rw [hsz _ _ _ g1, hc0]; simp, g3⟩
  simp only [execOp, ho, Instr.buildSlice, Sem.run_bind, run_underlying hu, Result.andThen, run_sizeOf hs]
  rw [if_neg (by omega)]
  by_cases h0 : len * z.cells.size = 0
  · simp only [h0, if_true, Sem.run_bind, Sem.run_pure, Result.andThen, hmap]
    have e : c0 = #[] := by rw [hc0, h0]; simp
    rw [e] at g1
    have e2 : ∀ f : Nat → Value, (Array.range 0).map f = #[] := fun f => by simp
    rw [e2, g1]
    rfl
  · have e : ((Array.range (len * z.cells.size)).map fun k => z.cells[k % z.cells.size]!) = c0 := hc0.symm
    simp only [h0, if_false, Sem.run_bind, run_zeroValue hz, Sem.run_pure, Result.andThen, hmap]
    rw [e, g1]
    rfl

theorem ok_buildSlice {o : Oper} {A : Nat → PV} {t e : TypeId} {len sz : Nat} {parts : Array (Nat × Operand)} {zs out : List PV} (ho : o.op = .buildSlice t len parts)
    (hu : P.underlying t = some (.slice e)) (hs : tsz P e = some sz) (hz : tzero P e = some zs) (hzl : zs.length = sz) (hb : len * sz ≤ 16777216)
    (h : fillA (fun i => some (i * sz, sz)) (zfill zs len) (parts.toList.map fun p => (p.1, ev A p.2)) = some out) (hp : isPL out = true) (hl : len ≤ 140737488355328) :
    OpOK Γ P o A ⟨.sl true (chunk sz len out), [], []⟩ := by
  intro F μ σ a w hsr ht _
  obtain ⟨c, hrun, h1, h2, h3⟩ := run_buildSlice ho ht hu hs hz hzl hb h
  rw [hrun]
  obtain ⟨k1, k2⟩ := srel_push hsr (.cells c e)
  refine ⟨μ, k1, .pure ?_, k2, MuExt.refl _⟩
  rw [isPL_eq, List.all_eq_true] at hp
  have hO : ¬ OwnF F μ (wrAll σ []) w.heap.size := fun h' => Nat.lt_irrefl _ (ownF_lt hsr h')
  have := PRep.sl (w := pushW w (.cells c e)) (O := OwnF F μ σ) true (chunk sz len out) sz w.heap.size 0 len (fun i j => c.getD (i * sz + j) undef)
    (fun r hr => by
      obtain ⟨i, hi⟩ := List.getElem?_of_mem hr
      obtain ⟨g1, g2⟩ := chunk_get sz len out i r hi
      rw [g2, List.length_take, List.length_drop, h1, h2]
      have : (i + 1) * sz ≤ len * sz := Nat.mul_le_mul_right _ g1
      rw [Nat.add_mul] at this
      omega) (by rw [chunk_length]; exact Nat.le_refl _) (by rw [chunk_length]; exact hl) (fun _ => by rw [chunk_length]) hO (by simp [pushW])
    (fun i r j p g1 g2 => by
      obtain ⟨q1, q2⟩ := chunk_get sz len out i r g1
      have hj : j < sz := by
        have := (List.getElem?_eq_some_iff.1 g2).1
        rw [q2, List.length_take] at this; omega
      have hlt : i * sz + j < c.size := by
        have : (i + 1) * sz ≤ len * sz := Nat.mul_le_mul_right _ q1
        rw [Nat.add_mul] at this
        omega
      simp only [World.cell?, pushW_new]
      simp [hlt])
    (fun i r j p g1 g2 => by
      obtain ⟨q1, q2⟩ := chunk_get sz len out i r g1
      have hj : j < sz := by
        have := (List.getElem?_eq_some_iff.1 g2).1
        rw [q2, List.length_take] at this; omega
      have hlt : i * sz + j < c.size := by
        have : (i + 1) * sz ≤ len * sz := Nat.mul_le_mul_right _ q1
        rw [Nat.add_mul] at this
        omega
      rw [q2, List.getElem?_take, if_pos hj, List.getElem?_drop] at g2
      have hr := rep_push (o := .cells c e) (h3 (i * sz + j) p (c.getD (i * sz + j) undef) g2 (by simp [hlt]))
      exact hr.isP (hp p (List.mem_of_getElem? g2)))
  rw [chunk_length] at this
  exact this

theorem rep_os0 {w : World} {O : Nat → Prop} {μ : Nat → Mu} {sz t n b cap : Nat} (h : μ t = .at b) (hn : n ≤ cap) (hl : n ≤ 140737488355328) (hs : ∃ ty m, w.shape? b = some (ty, m) ∧ cap * sz ≤ m) :
    Rep w O μ (.os sz t 0 n) (.slice (some ⟨b, 0, none⟩) n cap) := by
  have := Rep.os (w := w) (O := O) sz t 0 n b cap h hn hl (by simpa using hs)
  simpa using this

/-- The same, in a block of the call's own. -/
theorem ok_buildSlice_own {o : Oper} {A : Nat → PV} {t e : TypeId} {len sz nx : Nat} {parts : Array (Nat × Operand)} {zs out : List PV} (ho : o.op = .buildSlice t len parts)
    (hu : P.underlying t = some (.slice e)) (hs : tsz P e = some sz) (hz : tzero P e = some zs) (hzl : zs.length = sz) (hb : len * sz ≤ 16777216)
    (h : fillA (fun i => some (i * sz, sz)) (zfill zs len) (parts.toList.map fun p => (p.1, ev A p.2)) = some out) (hl : len ≤ 140737488355328) :
    OpOK Γ P o A ⟨.os sz nx 0 len, [(nx, .fresh)], [(nx, .live (.rows sz (chunk sz len out)))]⟩ := by
  intro F μ σ a w hsr ht hrd
  have hf : σ nx = .fresh := hrd (nx, .fresh) (List.mem_cons_self ..)
  obtain ⟨c, hrun, h1, h2, h3⟩ := run_buildSlice ho ht hu hs hz hzl hb h
  rw [hrun]
  have hB : BRep (pushW w (.cells c e)) (OwnF F (upd μ nx (.at w.heap.size)) (upd σ nx (.live (.rows sz (chunk sz len out))))) (upd μ nx (.at w.heap.size)) (.rows sz (chunk sz len out)) (.at w.heap.size) := by
    refine ⟨c, e, 0, 0, pushW_new, Nat.le_refl _, by rw [chunk_length, h2]; exact Nat.le_refl _, fun r hr => ?_, fun i r j p g1 g2 => ?_⟩
    · obtain ⟨i, hi⟩ := List.getElem?_of_mem hr
      obtain ⟨g1, g2⟩ := chunk_get sz len out i r hi
      rw [g2, List.length_take, List.length_drop, h1, h2]
      have : (i + 1) * sz ≤ len * sz := Nat.mul_le_mul_right _ g1
      rw [Nat.add_mul] at this
      omega
    · obtain ⟨q1, q2⟩ := chunk_get sz len out i r g1
      have hj : j < sz := by
        have := (List.getElem?_eq_some_iff.1 g2).1
        rw [q2, List.length_take] at this; omega
      have hlt : i * sz + j < c.size := by
        have : (i + 1) * sz ≤ len * sz := Nat.mul_le_mul_right _ q1
        rw [Nat.add_mul] at this
        omega
      rw [q2, List.getElem?_take, if_pos hj, List.getElem?_drop] at g2
      exact ⟨c[i * sz + j], by simp [hlt], rep_new hsr hf (h3 (i * sz + j) p _ g2 (by simp [hlt]))⟩
  obtain ⟨k1, k2, k3⟩ := srel_new hsr hf hB
  refine ⟨_, k1, ?_, k2, k3⟩
  exact rep_os0 (upd_same μ nx (.at w.heap.size)) (Nat.le_refl _) hl ⟨e, c.size, by simp only [World.shape?, pushW_new], by rw [h2]; exact Nat.le_refl _⟩

/-! ### Slicing -/
def optI (A : Nat → PV) : Option Operand → Option (Option Int)
  | none => some none
  | some x => match ev A x with
    | .v (.int _ n) => some (some n)
    | _ => none

theorem optI_spec {A : Nat → PV} {a : Act} {x : Option Operand} {r : Option Int} (h : optI A x = some r) (hx : ∀ y, x = some y → ∀ c, ev A y = .v c → a.eval y = c) :
    (x.map a.eval = none ∧ r = none) ∨ ∃ k n, x.map a.eval = some (.int k n) ∧ r = some n := by
  cases x with
  | none => simp [optI] at h; exact .inl ⟨rfl, h.symm⟩
  | some y =>
    simp only [optI] at h
    split at h
    · rename_i k n hy
      cases h
      exact .inr ⟨k, n, by simp [hx y rfl _ hy], rfl⟩
    · cases h

theorem run_sliceBound {k : IntKind} {i : Int} {y : Nat} {code : BoundsCode} (h0 : 0 ≤ i) (h1 : i ≤ y) (w : World) : (Instr.sliceBound (.int k i) y code).run P w = .ok i.toNat w := by
  simp only [Instr.sliceBound, asIntOf, Sem.run_bind, Sem.run_pure, Result.andThen]
  rw [if_pos ⟨h0, h1⟩]
  rfl

/-- Where a slice expression begins and ends. -/
def bnds (len : Nat) (lo hi mx : Option Int) (l h : Nat) : Prop :=
  (match lo with | none => l = 0 | some i => i = (l : Int)) ∧ (match hi with | none => h = len | some i => i = (h : Int)) ∧ (match mx with | none => True | some i => i = (h : Int) ∧ hi.isSome = true) ∧ l ≤ h ∧ h ≤ len

def mcap (cap h : Nat) : Option Int → Nat
  | none => cap
  | some _ => h

theorem run_sliceBounds {isS : Bool} {len cap l h : Nat} {lo hi mx : Option Int} (hb : bnds len lo hi mx l h) (hc : len ≤ cap) (klo khi kmx : IntKind) (w : World) :
    (Instr.sliceBounds isS len cap (lo.map (Value.int klo)) (hi.map (Value.int khi)) (mx.map (Value.int kmx))).run P w = .ok (l, h, mcap cap h mx) w := by
  obtain ⟨h1, h2, h3, h4, h5⟩ := hb
  have e1 : ∀ code, (Instr.sliceBound (.int kmx (h : Int)) cap code).run P w = .ok h w := fun code => by rw [run_sliceBound (by omega) (by omega)]; simp
  cases mx with
  | none =>
    cases hi with
    | none =>
      simp only at h2
      subst h2
      cases lo with
      | none => simp only at h1; subst h1; simp [mcap, Instr.sliceBounds]
      | some i => simp only at h1; subst h1; simp [mcap, Instr.sliceBounds, run_sliceBound (P := P) (w := w) (k := klo) (i := (l : Int)) (y := h) (by omega) (by omega)]
    | some i =>
      simp only at h2
      subst h2
      cases lo with
      | none => simp only at h1; subst h1; simp [mcap, Instr.sliceBounds, run_sliceBound (P := P) (w := w) (k := khi) (i := (h : Int)) (y := cap) (by omega) (by omega)]
      | some i => simp only at h1; subst h1; simp [mcap, Instr.sliceBounds, run_sliceBound (P := P) (w := w) (k := khi) (i := (h : Int)) (y := cap) (by omega) (by omega), run_sliceBound (P := P) (w := w) (k := klo) (i := (l : Int)) (y := h) (by omega) (by omega)]
  | some m =>
    obtain ⟨hm, hs⟩ := h3
    subst hm
    cases hi with
    | none => cases hs
    | some i =>
      simp only at h2
      subst h2
      cases lo with
      | none => simp only at h1; subst h1; simp [mcap, Instr.sliceBounds, e1, run_sliceBound (P := P) (w := w) (k := khi) (i := (h : Int)) (y := h) (by omega) (by omega)]
      | some i => simp only at h1; subst h1; simp [mcap, Instr.sliceBounds, e1, run_sliceBound (P := P) (w := w) (k := khi) (i := (h : Int)) (y := h) (by omega) (by omega), run_sliceBound (P := P) (w := w) (k := klo) (i := (l : Int)) (y := h) (by omega) (by omega)]

end Go.Am
