/- Abstract values and heaps, what they say of the model's values and worlds, and what each operation does to them: the base of the abstract layer. No condition. -/
import Derived.WalkKit
import Derived.Laws.Tables
import Derived.Laws.CopyRow
import Derived.Maps.AppendAt
import Derived.Great.BuildSlice
import Derived.Laws.MakeOwn
import Derived.Laws.OwnMore
import Derived.Great.FillDense
namespace Go.Ab
open Go

/-! ### Pure values: what lies in memory that is never written again -/

inductive PV where
  | sc (v : Value)
  | fro (rows : List (List PV))

def icell (I : Nat → Option Obj) (a : Addr) : Option Value :=
  match I a.block with
  | some (.cells c _ _) => if a.spot.isSome then none else c[a.off]?
  | _ => none

inductive RepI (I : Nat → Option Obj) : PV → Value → Prop
  | sc (v : Value) : RepI I (.sc v) v
  | fro (sz : Nat) (rows : List (List PV)) (A : Option Addr) (g off c : Nat) (vs : Nat → Nat → Value)
      (hA : 0 < rows.length → A = some ⟨g, off, none⟩) (hc : rows.length ≤ c)
      (hr : ∀ r, r ∈ rows → r.length = sz)
      (hcell : ∀ i j, i < rows.length → j < sz → icell I ⟨g, off + i * sz + j, none⟩ = some (vs i j))
      (h1 : ∀ i j, i < rows.length → j < sz → (vs i j).oneCell' = true)
      (hrep : ∀ i j r x, rows[i]? = some r → r[j]? = some x → RepI I x (vs i j)) :
      RepI I (.fro rows) (.slice A rows.length c)

def ILe (I I' : Nat → Option Obj) : Prop := ∀ g o, I g = some o → I' g = some o

theorem ILe.refl (I : Nat → Option Obj) : ILe I I := fun _ _ h => h
theorem ILe.trans {I J K : Nat → Option Obj} (h : ILe I J) (h' : ILe J K) : ILe I K := fun g o e => h' g o (h g o e)

theorem icell_mono {I I' : Nat → Option Obj} (h : ILe I I') {a : Addr} {v : Value} (e : icell I a = some v) : icell I' a = some v := by
  unfold icell at e ⊢
  cases hi : I a.block with
  | none => simp [hi] at e
  | some o => rw [h _ _ hi]; simpa [hi] using e

theorem RepI.mono {I I' : Nat → Option Obj} (h : ILe I I') {x : PV} {v : Value} (r : RepI I x v) : RepI I' x v := by
  induction r with
  | sc v => exact .sc v
  | fro sz rows A g off c vs hA hc hr hcell h1 hrep ih =>
    exact .fro sz rows A g off c vs hA hc hr (fun i j hi hj => icell_mono h (hcell i j hi hj)) h1 ih

/-! ### Abstract values -/

inductive AV where
  | any
  | nil
  | p (x : PV)
  | ptr (id off : Nat)
  | ref (id n : Nat)
  | apt (id sz i j : Nat)
  | rpt (row : List PV) (j : Nat)
  | fn (f : FuncId) (caps : List AV)
  | agg (xs : List AV)
  | tup (xs : List AV)

inductive ChI where
  | unborn | dead
  | blk (g : Nat)
  | sl (v : Value)

structure Env where
  I : Nat → Option Obj
  ch : Nat → ChI

inductive Rep (E : Env) : AV → Value → Prop
  | any (v : Value) : Rep E .any v
  | nil : Rep E .nil (.slice none 0 0)
  | p {x : PV} {v : Value} (h : RepI E.I x v) : Rep E (.p x) v
  | ptr {id off g : Nat} (h : E.ch id = .blk g) : Rep E (.ptr id off) (.pointer (some ⟨g, off, none⟩))
  | ptrd {id off : Nat} (q : Addr) (h : E.ch id = .dead) : Rep E (.ptr id off) (.pointer (some q))
  | ref {id n c : Nat} {A : Option Addr} (h : E.ch id = .sl (.slice A n c)) (hA : 0 < n → ∃ g off, A = some ⟨g, off, none⟩) : Rep E (.ref id n) (.slice A n c)
  | refd {id n : Nat} (A : Option Addr) (c : Nat) (h : E.ch id = .dead) (hA : 0 < n → ∃ g off, A = some ⟨g, off, none⟩) : Rep E (.ref id n) (.slice A n c)
  | apt {id sz i j n c g off : Nat} (h : E.ch id = .sl (.slice (some ⟨g, off, none⟩) n c)) :
      Rep E (.apt id sz i j) (.pointer (some ⟨g, off + i * sz + j, none⟩))
  | aptd {id sz i j : Nat} (q : Addr) (h : E.ch id = .dead) : Rep E (.apt id sz i j) (.pointer (some q))
  | rpt {row : List PV} {j : Nat} (g off : Nat) (vs : Nat → Value)
      (hcell : ∀ k, k < row.length → icell E.I ⟨g, off + k, none⟩ = some (vs k))
      (h1 : ∀ k, k < row.length → (vs k).oneCell' = true)
      (hrep : ∀ k x, row[k]? = some x → RepI E.I x (vs k)) : Rep E (.rpt row j) (.pointer (some ⟨g, off + j, none⟩))
  | fn {f : FuncId} {caps : List AV} (vs : Array Value) (hs : vs.size = caps.length) (u : Nat → Value)
      (hu : ∀ i, i < caps.length → vs[i]? = some (u i)) (h : ∀ i x, caps[i]? = some x → Rep E x (u i)) :
      Rep E (.fn f caps) (.func (.func f) #[] vs)
  | agg {xs : List AV} (vs : Array Value) (hs : vs.size = xs.length) (u : Nat → Value)
      (hu : ∀ i, i < xs.length → vs[i]? = some (u i)) (h : ∀ i x, xs[i]? = some x → Rep E x (u i)) : Rep E (.agg xs) (.agg vs)
  | tup {xs : List AV} (vs : Array Value) (hs : vs.size = xs.length) (u : Nat → Value)
      (hu : ∀ i, i < xs.length → vs[i]? = some (u i)) (h : ∀ i x, xs[i]? = some x → Rep E x (u i)) : Rep E (.tup xs) (.tuple vs)

structure ELe (E E' : Env) : Prop where
  I : ILe E.I E'.I
  ch : ∀ id, E.ch id = .unborn ∨ E'.ch id = E.ch id ∨ E'.ch id = .dead

theorem ELe.refl (E : Env) : ELe E E := ⟨.refl _, fun _ => .inr (.inl rfl)⟩
theorem ELe.trans {E F G : Env} (h : ELe E F) (h' : ELe F G) : ELe E G := by
  refine ⟨h.I.trans h'.I, fun id => ?_⟩
  rcases h.ch id with e | e | e
  · exact .inl e
  · rcases h'.ch id with f | f | f
    · left; rw [← e, f]
    · right; left; rw [f, e]
    · right; right; exact f
  · rcases h'.ch id with f | f | f
    · rw [e] at f; cases f
    · right; right; rw [f, e]
    · right; right; exact f

theorem Rep.mono {E E' : Env} (h : ELe E E') {x : AV} {v : Value} (r : Rep E x v) : Rep E' x v := by
  induction r with
  | any v => exact .any v
  | nil => exact .nil
  | p hx => exact .p (hx.mono h.I)
  | @ptr id off g hc =>
    rcases h.ch id with e | e | e
    · rw [hc] at e; cases e
    · exact .ptr (e.trans hc)
    · exact .ptrd _ e
  | @ptrd id off q hc =>
    rcases h.ch id with e | e | e
    · rw [hc] at e; cases e
    · exact .ptrd q (e.trans hc)
    · exact .ptrd q e
  | @ref id n c A hc hA =>
    rcases h.ch id with e | e | e
    · rw [hc] at e; cases e
    · exact .ref (e.trans hc) hA
    · exact .refd _ _ e hA
  | @refd id n A c hc hA =>
    rcases h.ch id with e | e | e
    · rw [hc] at e; cases e
    · exact .refd _ _ (e.trans hc) hA
    · exact .refd _ _ e hA
  | @apt id sz i j n c g off hc =>
    rcases h.ch id with e | e | e
    · rw [hc] at e; cases e
    · exact .apt (e.trans hc)
    · exact .aptd _ e
  | @aptd id sz i j q hc =>
    rcases h.ch id with e | e | e
    · rw [hc] at e; cases e
    · exact .aptd _ (e.trans hc)
    · exact .aptd _ e
  | rpt g off vs hcell h1 hrep => exact .rpt g off vs (fun k hk => icell_mono h.I (hcell k hk)) h1 (fun k x hx => (hrep k x hx).mono h.I)
  | fn vs hs u hu _ ih => exact .fn vs hs u hu ih
  | agg vs hs u hu _ ih => exact .agg vs hs u hu ih
  | tup vs hs u hu _ ih => exact .tup vs hs u hu ih

/-! ### Abstract heaps -/

inductive Ck where
  | box (t : TypeId) (cells : List AV)
  | arr (e : TypeId) (sz : Nat) (rows : List (List PV))
  | fz (rows : List (List PV))

abbrev AHeap := Nat → Option Ck
abbrev AEnv := Nat → AV

def upd {α : Type} (f : Nat → α) (k : Nat) (v : α) : Nat → α := fun j => if j = k then v else f j
theorem upd_same {α : Type} (f : Nat → α) (k : Nat) (v : α) : upd f k v k = v := by simp [upd]
theorem upd_other {α : Type} (f : Nat → α) {k j : Nat} (v : α) (h : j ≠ k) : upd f k v j = f j := by simp [upd, h]
theorem upd_comm {α : Type} (f : Nat → α) {k j : Nat} (v u : α) (h : j ≠ k) : upd (upd f k v) j u = upd (upd f j u) k v := by
  funext i; unfold upd; by_cases h1 : i = j <;> by_cases h2 : i = k <;> simp [h1, h2]
  · subst h1; subst h2; exact absurd rfl h
  · subst h1; simp [h]
  · subst h2; intro e; exact absurd e.symm h

def ChI.block : ChI → Option Nat
  | .blk g => some g
  | .sl (.slice (some a) _ _) => some a.block
  | _ => none

/-- Is this chunk one that may be written? -/
def Ck.owned : Option Ck → Bool
  | some (.box ..) => true
  | some (.arr ..) => true
  | _ => false

def own (E : Env) (h : AHeap) (g : Nat) : Prop := ∃ id, Ck.owned (h id) = true ∧ (E.ch id).block = some g

/-- An array of the call's own: nil and empty, or the head of a block, whose first cells are the rows. -/
def ArrOK (E : Env) (w : World) (e : TypeId) (sz : Nat) (rows : List (List PV)) (v : Value) : Prop :=
  ∃ xs : List Value, w.ownsRow 0 e sz v rows.length xs ∧ (∀ r, r ∈ rows → r.length = sz) ∧
    (∀ (i j : Nat) (r : List PV) (x : PV), rows[i]? = some r → r[j]? = some x → ∃ u, xs[i * sz + j]? = some u ∧ RepI E.I x u) ∧
    (∀ u, u ∈ xs → u.oneCell' = true) ∧ ∀ g, v.ownBlock = some g → E.I g = none

def CkOK (E : Env) (w : World) (ci : ChI) : Option Ck → Prop
  | none => True
  | some (.box t cells) => ∃ g vs, ci = .blk g ∧ w.heap[g]? = some (.cells vs t (0, 0)) ∧ vs.size = cells.length ∧
      (∀ (j : Nat) (x : AV), cells[j]? = some x → ∃ v, vs[j]? = some v ∧ Rep E x v) ∧ E.I g = none
  | some (.arr e sz rows) => ∃ v, ci = .sl v ∧ ArrOK E w e sz rows v
  | some (.fz rows) => ∃ v, ci = .sl v ∧ RepI E.I (.fro rows) v

structure WOK (E : Env) (h : AHeap) (w : World) : Prop where
  imm : ∀ g o, E.I g = some o → w.heap[g]? = some o
  ck : ∀ id, CkOK E w (E.ch id) (h id)
  dist : ∀ id id' g, id ≠ id' → Ck.owned (h id) = true → Ck.owned (h id') = true → (E.ch id).block = some g → (E.ch id').block ≠ some g

/-- From one moment to a later one: what was not owned, is as it was. m: the chunks that bear their numbers on. -/
structure Evol (m : Nat) (E : Env) (h : AHeap) (w : World) (E' : Env) (h' : AHeap) (w' : World) : Prop where
  I : ILe E.I E'.I
  ch : ∀ id, id < m → E'.ch id = E.ch id ∨ E'.ch id = .dead
  size : w.heap.size ≤ w'.heap.size
  frame : ∀ g, g < w.heap.size → ¬ own E h g → w'.heap[g]? = w.heap[g]?
  imm : ∀ g o, E'.I g = some o → E.I g = some o ∨ w.heap.size ≤ g ∨ own E h g
  owned : ∀ g, own E' h' g → w.heap.size ≤ g ∨ own E h g
  same : w'.os = w.os ∧ w'.output = w.output

theorem Evol.refl (m : Nat) (E : Env) (h : AHeap) (w : World) : Evol m E h w E h w :=
  ⟨.refl _, fun _ _ => .inl rfl, Nat.le_refl _, fun _ _ _ => rfl, fun _ _ e => .inl e, fun _ e => .inr e, rfl, rfl⟩

theorem Evol.trans {m : Nat} {E E' E'' : Env} {h h' h'' : AHeap} {w w' w'' : World} (a : Evol m E h w E' h' w') (b : Evol m E' h' w' E'' h'' w'') :
    Evol m E h w E'' h'' w'' := by
  refine ⟨a.I.trans b.I, fun id hid => ?_, Nat.le_trans a.size b.size, fun g hg hn => ?_, fun g o e => ?_, fun g e => ?_, b.same.1.trans a.same.1, b.same.2.trans a.same.2⟩
  · rcases b.ch id hid with e | e
    · rcases a.ch id hid with f | f
      · left; rw [e, f]
      · right; rw [e, f]
    · exact .inr e
  · rw [b.frame g (Nat.lt_of_lt_of_le hg a.size) (fun ho => ?_), a.frame g hg hn]
    rcases a.owned g ho with h1 | h1
    · omega
    · exact hn h1
  · rcases b.imm g o e with h1 | h1 | h1
    · exact a.imm g o h1
    · exact .inr (.inl (Nat.le_trans a.size h1))
    · exact .inr (a.owned g h1)
  · rcases b.owned g e with h1 | h1
    · exact .inl (Nat.le_trans a.size h1)
    · exact a.owned g h1

theorem Evol.lower {m m' : Nat} (hm : m' ≤ m) {E E' : Env} {h h' : AHeap} {w w' : World} (a : Evol m E h w E' h' w') : Evol m' E h w E' h' w' :=
  { a with ch := fun id hid => a.ch id (Nat.lt_of_lt_of_le hid hm) }

end Go.Ab

set_option linter.unusedVariables false
set_option linter.unusedSimpArgs false
namespace Go.Ab
open Go

/-! ### What is asked of types -/

structure TyF where
  agg : Bool
  size : Nat
  bytes : Nat
  zero : Value

def isAggD : TypeDesc → Bool
  | .struct _ => true
  | .array _ _ => true
  | _ => false

def tyf (P : Program) (t : TypeId) : Option TyF :=
  match P.underlying t, P.info? t with
  | some d, some i => match i.zero with
    | some z => some ⟨isAggD d, i.size, i.bytes, z⟩
    | none => none
  | _, _ => none

def slE (P : Program) (t : TypeId) : Option TypeId :=
  match P.underlying t with
  | some (.slice e) => some e
  | _ => none

def arE (P : Program) (t : TypeId) : Option (Nat × TypeId) :=
  match P.underlying t with
  | some (.array n e) => some (n, e)
  | _ => none

/-- A field's offset, its cells, whether it is a struct or an array. -/
def fOff (P : Program) (t : TypeId) (f : Nat) : Option (Nat × Nat × Bool) :=
  match P.underlying t with
  | some (.struct fs) => match fs[f]? with
    | some fld => match tyf P fld.type with
      | some y => if y.size = 0 then none else some (fld.offset, y.size, y.agg)
      | none => none
    | none => none
  | _ => none

theorem tyf_spec {P : Program} {t : TypeId} {y : TyF} (h : tyf P t = some y) :
    ∃ d i, P.underlying t = some d ∧ P.info? t = some i ∧ i.zero = some y.zero ∧ i.size = y.size ∧ i.bytes = y.bytes ∧ isAggD d = y.agg := by
  unfold tyf at h
  split at h
  · rename_i d i hd hi
    split at h
    · rename_i z hz
      injection h with h
      subst h
      exact ⟨d, i, hd, hi, hz, rfl, rfl, rfl⟩
    · cases h
  · cases h

theorem run_isAgg {P : Program} {t : TypeId} {y : TyF} (h : tyf P t = some y) (w : World) : (isAgg t).run P w = .ok y.agg w := by
  obtain ⟨d, i, hd, -, -, -, -, ha⟩ := tyf_spec h
  rw [← ha]
  cases d <;> simp [isAgg, run_underlying hd, isAggD]

theorem run_sizeT {P : Program} {t : TypeId} {y : TyF} (h : tyf P t = some y) (w : World) : (sizeOf t).run P w = .ok y.size w := by
  obtain ⟨d, i, -, hi, -, hs, -, -⟩ := tyf_spec h
  rw [← hs]
  simp [sizeOf, typeInfo, hi]

theorem run_zeroT {P : Program} {t : TypeId} {y : TyF} (h : tyf P t = some y) (w : World) : (zeroValue t).run P w = .ok y.zero w := by
  obtain ⟨d, i, -, hi, hz, -, -, -⟩ := tyf_spec h
  simp [zeroValue, typeInfo, hi, hz]

theorem slE_spec {P : Program} {t e : TypeId} (h : slE P t = some e) : P.underlying t = some (.slice e) := by
  unfold slE at h; split at h
  · rename_i h1; injection h with h; rw [h1, h]
  · cases h
theorem arE_spec {P : Program} {t : TypeId} {n : Nat} {e : TypeId} (h : arE P t = some (n, e)) : P.underlying t = some (.array n e) := by
  unfold arE at h; split at h
  · rename_i h1; injection h with h; injection h with h2 h3; subst h2; subst h3; exact h1
  · cases h

/-! ### Constants -/

def cst1 : Value → AV
  | .slice none 0 0 => .nil
  | v => .p (.sc v)

def cst : Value → AV
  | .agg cs => .agg (cs.toList.map cst1)
  | .tuple cs => .tup (cs.toList.map cst1)
  | v => cst1 v

def ev (env : AEnv) : Operand → AV
  | .tmp t => env t
  | .const v => cst v
  | .func f => .fn f []
  | .global _ => .any

theorem Rep.cst1 {E : Env} (v : Value) : Rep E (cst1 v) v := by
  unfold Ab.cst1
  split
  · exact .nil
  · exact .p (.sc _)

theorem Rep.cst {E : Env} (v : Value) : Rep E (cst v) v := by
  unfold Ab.cst
  split
  · rename_i cs
    refine .agg cs (by simp) (fun i => cs.getD i undef) (fun i hi => ?_) (fun i x hx => ?_)
    · simp at hi; simp [hi]
    · simp only [List.getElem?_map, Array.getElem?_toList] at hx
      cases hc : cs[i]? with
      | none => simp [hc] at hx
      | some u => simp [hc] at hx; subst hx; simp only [Array.getD_eq_getD_getElem?, hc, Option.getD_some]; exact Rep.cst1 u
  · rename_i cs
    refine .tup cs (by simp) (fun i => cs.getD i undef) (fun i hi => ?_) (fun i x hx => ?_)
    · simp at hi; simp [hi]
    · simp only [List.getElem?_map, Array.getElem?_toList] at hx
      cases hc : cs[i]? with
      | none => simp [hc] at hx
      | some u => simp [hc] at hx; subst hx; simp only [Array.getD_eq_getD_getElem?, hc, Option.getD_some]; exact Rep.cst1 u
  · exact Rep.cst1 v

theorem Rep.ev {E : Env} {env : AEnv} {a : Act} (h : ∀ k, Rep E (env k) (a.tmps.getD k undef)) (x : Operand) : Rep E (ev env x) (a.eval x) := by
  cases x with
  | tmp t => exact h t
  | const v => exact Rep.cst v
  | func f => exact .fn #[] rfl (fun _ => undef) (fun i hi => absurd hi (by simp)) (fun i x hx => by simp at hx)
  | global g => exact .any _

/-! ### Cells of values -/

def cellB : AV → Bool
  | .nil => true
  | .p (.sc v) => v.oneCell'
  | .p (.fro _) => true
  | .ptr _ _ => true
  | .ref _ _ => true
  | .apt _ _ _ _ => true
  | .rpt _ _ => true
  | .fn _ _ => true
  | _ => false

theorem Rep.one {E : Env} {x : AV} {v : Value} (h : Rep E x v) (hb : cellB x = true) : v.oneCell' = true := by
  cases h with
  | p h =>
    cases h with
    | sc v => exact hb
    | fro => rfl
  | _ => first | rfl | (simp [cellB] at hb)

/-- A list of cells and of values. -/
def RepL (E : Env) (xs : List AV) (vs : List Value) : Prop := xs.length = vs.length ∧ ∀ (i : Nat) (x : AV), xs[i]? = some x → ∃ v, vs[i]? = some v ∧ Rep E x v

theorem RepL.mono {E E' : Env} (h : ELe E E') {xs : List AV} {vs : List Value} (r : RepL E xs vs) : RepL E' xs vs :=
  ⟨r.1, fun i x hx => let ⟨v, hv, hr⟩ := r.2 i x hx; ⟨v, hv, hr.mono h⟩⟩
theorem RepL.nil (E : Env) : RepL E [] [] := ⟨rfl, fun i x hx => by simp at hx⟩
theorem RepL.cons {E : Env} {x : AV} {v : Value} {xs : List AV} {vs : List Value} (h : Rep E x v) (r : RepL E xs vs) : RepL E (x :: xs) (v :: vs) := by
  refine ⟨by simp [r.1], fun i y hy => ?_⟩
  cases i with
  | zero => simp at hy; subst hy; exact ⟨v, by simp, h⟩
  | succ i => simp at hy; obtain ⟨u, hu, hr⟩ := r.2 i y hy; exact ⟨u, by simp [hu], hr⟩

theorem RepL.of_agg {E : Env} {xs : List AV} {vs : Array Value} (h : Rep E (.agg xs) (.agg vs)) : RepL E xs vs.toList := by
  cases h with
  | agg _ hs u hu h =>
    refine ⟨by simp [hs], fun i x hx => ⟨u i, ?_, h i x hx⟩⟩
    have := hu i (List.getElem?_eq_some_iff.1 hx).1
    simpa using this
theorem RepL.agg {E : Env} {xs : List AV} {vs : Array Value} (h : RepL E xs vs.toList) : Rep E (.agg xs) (.agg vs) := by
  refine .agg vs (by simpa using h.1.symm) (fun i => vs.getD i undef) (fun i hi => ?_) (fun i x hx => ?_)
  · have : i < vs.size := by have := h.1; simp at this; omega
    simp [this]
  · obtain ⟨v, hv, hr⟩ := h.2 i x hx
    have hv' : vs[i]? = some v := by simpa using hv
    show Rep E x (vs.getD i undef)
    rw [Array.getD_eq_getD_getElem?, hv']
    exact hr
theorem RepL.tup {E : Env} {xs : List AV} {vs : Array Value} (h : RepL E xs vs.toList) : Rep E (.tup xs) (.tuple vs) := by
  refine .tup vs (by simpa using h.1.symm) (fun i => vs.getD i undef) (fun i hi => ?_) (fun i x hx => ?_)
  · have : i < vs.size := by have := h.1; simp at this; omega
    simp [this]
  · obtain ⟨v, hv, hr⟩ := h.2 i x hx
    have hv' : vs[i]? = some v := by simpa using hv
    show Rep E x (vs.getD i undef)
    rw [Array.getD_eq_getD_getElem?, hv']
    exact hr
theorem RepL.of_tup {E : Env} {xs : List AV} {v : Value} (h : Rep E (.tup xs) v) : ∃ vs, v = .tuple vs ∧ RepL E xs vs.toList := by
  cases h with
  | tup vs hs u hu h =>
    refine ⟨vs, rfl, by simp [hs], fun i x hx => ⟨u i, ?_, h i x hx⟩⟩
    have := hu i (List.getElem?_eq_some_iff.1 hx).1
    simpa using this

/-- The cells that a value has in memory. -/
def cellsL : AV → Option (List AV)
  | .agg xs => if xs.all cellB then some xs else none
  | .any => none
  | .tup _ => none
  | x => if cellB x then some [x] else none

theorem cellsL_rep {E : Env} {x : AV} {v : Value} {cs : List AV} (h : Rep E x v) (hc : cellsL x = some cs) :
    RepL E cs v.cells.toList ∧ v.cells.all (·.oneCell') = true := by
  have one : ∀ {y : AV}, y = x → (if cellB y = true then some [y] else none) = some cs → RepL E cs v.cells.toList ∧ v.cells.all (·.oneCell') = true := by
    intro y hy hd
    subst hy
    by_cases hb : cellB y = true
    · rw [if_pos hb] at hd
      injection hd with hd
      subst hd
      have h1 := h.one hb
      have hcl : v.cells = #[v] := by cases v <;> first | rfl | (simp [Value.oneCell'] at h1)
      rw [hcl]
      exact ⟨RepL.cons h (RepL.nil E), by simp [h1]⟩
    · rw [if_neg hb] at hd
      cases hd
  unfold cellsL at hc
  split at hc
  · rename_i xs
    split at hc
    · rename_i hall
      injection hc with hc
      subst hc
      cases h with
      | agg vs hs u hu h =>
        have hl := RepL.of_agg (.agg vs hs u hu h)
        refine ⟨hl, ?_⟩
        simp only [Value.cells]
        rw [Array.all_eq_true]
        intro i hi
        obtain ⟨x, hx⟩ : ∃ x, xs[i]? = some x := ⟨xs[i]'(by omega), List.getElem?_eq_getElem (by omega)⟩
        obtain ⟨v, hv, hr⟩ := hl.2 i x hx
        have hb : cellB x = true := List.all_eq_true.1 hall x (List.mem_of_getElem? hx)
        have hvi : vs[i] = v := by simpa [Array.getElem?_eq_getElem hi] using hv
        rw [hvi]
        exact hr.one hb
    · cases hc
  · cases hc
  · cases hc
  · exact one rfl hc

end Go.Ab

set_option linter.unusedVariables false
set_option linter.unusedSimpArgs false
namespace Go.Ab
open Go

/-- From an environment to a later one by one operation, which may bring up the chunk nid. -/
structure EStep (nid : Nat) (E E' : Env) : Prop where
  I : ILe E.I E'.I
  ch : ∀ id, id ≠ nid → E'.ch id = E.ch id ∨ (E'.ch id = .dead ∧ E.ch id ≠ .unborn)

theorem EStep.refl (nid : Nat) (E : Env) : EStep nid E E := ⟨.refl _, fun _ _ => .inl rfl⟩
theorem EStep.le {nid : Nat} {E E' : Env} (h : EStep nid E E') (hn : E.ch nid = .unborn) : ELe E E' := by
  refine ⟨h.I, fun id => ?_⟩
  by_cases e : id = nid
  · subst e; exact .inl hn
  · rcases h.ch id e with h | h
    · exact .inr (.inl h)
    · exact .inr (.inr h.1)

structure Moved (E : Env) (h : AHeap) (w : World) (E' : Env) (h' : AHeap) (w' : World) : Prop where
  size : w.heap.size ≤ w'.heap.size
  frame : ∀ g, g < w.heap.size → ¬ own E h g → w'.heap[g]? = w.heap[g]?
  imm : ∀ g o, E'.I g = some o → E.I g = some o ∨ w.heap.size ≤ g ∨ own E h g
  owned : ∀ g, own E' h' g → w.heap.size ≤ g ∨ own E h g
  same : w'.os = w.os ∧ w'.output = w.output

theorem Moved.refl (E : Env) (h : AHeap) (w : World) : Moved E h w E h w :=
  ⟨Nat.le_refl _, fun _ _ _ => rfl, fun _ _ e => .inl e, fun _ e => .inr e, rfl, rfl⟩

theorem Moved.evol {m nid : Nat} {E E' : Env} {h h' : AHeap} {w w' : World} (a : Moved E h w E' h' w') (s : EStep nid E E') (hm : m ≤ nid) : Evol m E h w E' h' w' :=
  ⟨s.I, fun id hid => by
    rcases s.ch id (by omega) with e | e
    · exact .inl e
    · exact .inr e.1, a.size, a.frame, a.imm, a.owned, a.same⟩

/-- What one operation of the model does, told by an abstract value and heap. -/
def OpSim (P : Program) (nid : Nat) (E : Env) (h : AHeap) (w : World) (o : Oper) (a : Act) (x : AV) (h' : AHeap) : Prop :=
  ∃ val w' E', ((execOp a.eval o).run P w = .ok (.value val) w' ∨ ((execOp a.eval o).run P w = .ok .skip w' ∧ val = undef)) ∧
    Rep E' x val ∧ EStep nid E E' ∧ WOK E' h' w' ∧ Moved E h w E' h' w'

theorem Rep.sc_inv {E : Env} {u v : Value} (h : Rep E (.p (.sc u)) v) : v = u := by
  cases h with | p h => cases h; rfl

theorem eqGuard_ok {P : Program} {w : World} {op : BinOp} {t : TypeId} {x y : Operand} {u v : Value} (hg : ∀ cs, u ≠ .agg cs) (hn : u ≠ .nilIface) : (eqGuard op t x y u v).run P w = .ok () w := by
  unfold eqGuard
  cases op <;> first
    | rfl
    | (cases u <;> first
        | rfl
        | exact absurd rfl hn
        | exact absurd rfl (hg _))

/-- Whole numbers of one kind. -/
def abin (op : BinOp) (k : IntKind) (a b : Int) : Option Value :=
  match op with
  | .add => some (.int k (k.wrap (a + b)))
  | .sub => some (.int k (k.wrap (a - b)))
  | .mul => some (.int k (k.wrap (a * b)))
  | .quo => if b = 0 then none else some (.int k (k.wrap (a.tdiv b)))
  | .rem => if b = 0 then none else some (.int k (a.tmod b))
  | .and => some (.int k (k.wrap (BitVec.ofInt k.bits a &&& BitVec.ofInt k.bits b).toNat))
  | .or => some (.int k (k.wrap (BitVec.ofInt k.bits a ||| BitVec.ofInt k.bits b).toNat))
  | .xor => some (.int k (k.wrap (BitVec.ofInt k.bits a ^^^ BitVec.ofInt k.bits b).toNat))
  | .eql => some (.bool (decide (a = b)))
  | .neq => some (.bool (decide (a ≠ b)))
  | .lss => some (.bool (decide (a < b)))
  | .leq => some (.bool (decide (a ≤ b)))
  | .gtr => some (.bool (decide (b < a)))
  | .geq => some (.bool (decide (b ≤ a)))
  | _ => none

theorem abin_run {P : Program} {op : BinOp} {k : IntKind} {t : TypeId} {a b : Int} {r : Value} (h : abin op k a b = some r) (w : World) : (Go.binOp op t (.int k a) (.int k b)).run P w = .ok r w := by
  have hne : (a != b) = decide (a ≠ b) := by
    by_cases e : a = b
    · simp [e]
    · simp [e, bne]
  have heq : (a == b) = decide (a = b) := by
    by_cases e : a = b
    · simp [e]
    · simp [e]
  unfold abin at h
  cases op <;> simp only [] at h <;> first
    | (cases h; done)
    | (injection h with h; subst h; simp [Go.binOp, Op.intArith, Op.intBits, Op.intCmp, hne]; done)
    | (injection h with h; subst h; simp only [← heq]; simp [Go.binOp, Op.intCmp]; done)
    | (split at h
       · cases h
       · rename_i hb
         injection h with h
         subst h
         simp [Go.binOp, Op.intDiv, hb]
         done)

/-- Both are numbers: a conversion. -/
def intT (P : Program) (t : TypeId) : Option IntKind :=
  match P.underlying t with
  | some (.int k) => some k
  | _ => none

theorem intT_spec {P : Program} {t : TypeId} {k : IntKind} (h : intT P t = some k) : P.underlying t = some (.int k) := by
  unfold intT at h; split at h
  · rename_i h1; injection h with h; rw [h1, h]
  · cases h

section
variable {P : Program} {nid : Nat} {E : Env} {h : AHeap} {w : World} {o : Oper} {a : Act} {env : AEnv}

theorem OpSim.pure {x : AV} {val : Value} (hw : WOK E h w) (hr : (execOp a.eval o).run P w = .ok (.value val) w) (hx : Rep E x val) : OpSim P nid E h w o a x h :=
  ⟨val, w, E, .inl hr, hx, .refl _ _, hw, .refl _ _ _⟩

variable (hw : WOK E h w) (henv : ∀ k, Rep E (env k) (a.tmps.getD k undef))
include hw henv

theorem sim_move {x : Operand} (ho : o.op = .move x ∨ o.op = .assign x) : OpSim P nid E h w o a (ev env x) h := by
  refine OpSim.pure hw (val := a.eval x) ?_ (Rep.ev henv x)
  rcases ho with ho | ho <;> simp [execOp, ho]

theorem sim_pick {c x y : Operand} {t : Bool} (ho : o.op = .pick c x y) (hc : ev env c = .p (.sc (.bool t))) :
    OpSim P nid E h w o a (if t then ev env x else ev env y) h := by
  have hv := Rep.ev henv c
  rw [hc] at hv
  have hc' : a.eval c = .bool t := hv.sc_inv
  refine OpSim.pure hw (val := if t then a.eval x else a.eval y) ?_ ?_
  · simp [execOp, ho, hc', asBool]
  · cases t
    · exact Rep.ev henv y
    · exact Rep.ev henv x

theorem sim_extract {x : Operand} {i : Nat} {xs : List AV} {y : AV} (ho : o.op = .extract x i) (hx : ev env x = .tup xs) (hy : xs[i]? = some y) :
    OpSim P nid E h w o a y h := by
  have hv := Rep.ev henv x
  rw [hx] at hv
  obtain ⟨vs, e, hl⟩ := RepL.of_tup hv
  obtain ⟨v, hv', hr⟩ := hl.2 i y hy
  have hv2 : vs[i]? = some v := by simpa using hv'
  refine OpSim.pure hw (val := v) ?_ hr
  simp [execOp, ho, e, Instr.extract, hv2]

/-- A pointer: what a nil check lets through. -/
def isPtr : AV → Bool
  | .ptr _ _ => true
  | .apt _ _ _ _ => true
  | .rpt _ _ => true
  | .fn _ _ => true
  | _ => false

theorem sim_nilCheck {x : Operand} (ho : o.op = .nilCheck x) (hx : isPtr (ev env x) = true) : OpSim P nid E h w o a (ev env x) h := by
  have hv := Rep.ev henv x
  refine OpSim.pure hw (val := a.eval x) ?_ hv
  generalize ev env x = y at hv hx
  generalize hq : a.eval x = v at hv
  cases hv <;> first | (simp [isPtr] at hx; done) | (simp [execOp, ho, hq]; done)

theorem sim_makeFunc {f : FuncId} {caps : Array Operand} (ho : o.op = .makeFunc (.func f) #[] caps) :
    OpSim P nid E h w o a (.fn f (caps.toList.map (ev env))) h := by
  refine OpSim.pure hw (val := .func (.func f) #[] (caps.map a.eval)) ?_ ?_
  · simp [execOp, ho, Instr.makeFunc]
  · refine .fn _ (by simp) (fun i => (caps.map a.eval).getD i undef) (fun i hi => ?_) (fun i x hx => ?_)
    · simp at hi
      simp [hi]
    · simp only [List.getElem?_map, Array.getElem?_toList] at hx
      cases hc : caps[i]? with
      | none => simp [hc] at hx
      | some u =>
        simp [hc] at hx
        subst hx
        have hlt : i < caps.size := (Array.getElem?_eq_some_iff.1 hc).1
        have hcu : caps[i] = u := (Array.getElem?_eq_some_iff.1 hc).2
        simp [hlt, hcu]
        exact Rep.ev henv u

theorem sim_binOp {op : BinOp} {t t' : TypeId} {x y : Operand} {u v r : Value} (ho : o.op = .binOp op t x y t') (hx : ev env x = .p (.sc u)) (hy : ev env y = .p (.sc v))
    (hg : ∀ cs, u ≠ .agg cs) (hn : u ≠ .nilIface) (hr : (Go.binOp op t u v).run P w = .ok r w) : OpSim P nid E h w o a (cst1 r) h := by
  have hu := Rep.ev henv x
  have hv := Rep.ev henv y
  rw [hx] at hu
  rw [hy] at hv
  have e1 : a.eval x = u := hu.sc_inv
  have e2 : a.eval y = v := hv.sc_inv
  refine OpSim.pure hw (val := r) ?_ (Rep.cst1 r)
  have hgd := eqGuard_ok (P := P) (w := w) (op := op) (t := t) (x := x) (y := y) (v := v) hg hn
  simp [execOp, ho, e1, e2, hgd, hr]

theorem sim_bin {op : BinOp} {t t' : TypeId} {x y : Operand} {k : IntKind} {m n : Int} {r : Value} (ho : o.op = .binOp op t x y t') (hx : ev env x = .p (.sc (.int k m))) (hy : ev env y = .p (.sc (.int k n)))
    (hr : abin op k m n = some r) : OpSim P nid E h w o a (cst1 r) h :=
  sim_binOp hw henv ho hx hy (by simp) (by simp) (abin_run hr w)

theorem sim_not {t : TypeId} {x : Operand} {b : Bool} (ho : o.op = .unOp .not t x) (hx : ev env x = .p (.sc (.bool b))) : OpSim P nid E h w o a (.p (.sc (.bool !b))) h := by
  have hu := Rep.ev henv x
  rw [hx] at hu
  have e1 : a.eval x = .bool b := hu.sc_inv
  refine OpSim.pure hw (val := .bool !b) ?_ (.p (.sc _))
  simp [execOp, ho, e1, Op.unary]

theorem sim_neg {t : TypeId} {x : Operand} {k : IntKind} {n : Int} (ho : o.op = .unOp .neg t x) (hx : ev env x = .p (.sc (.int k n))) : OpSim P nid E h w o a (.p (.sc (.int k (k.wrap (-n))))) h := by
  have hu := Rep.ev henv x
  rw [hx] at hu
  have e1 : a.eval x = .int k n := hu.sc_inv
  refine OpSim.pure hw (val := .int k (k.wrap (-n))) ?_ (.p (.sc _))
  simp [execOp, ho, e1, Op.unary, Op.intArith]

theorem sim_convInt {s d : TypeId} {x : Operand} {k k' k'' : IntKind} {n : Int} (ho : o.op = .convert s d x) (hs : intT P s = some k) (hd : intT P d = some k') (hx : ev env x = .p (.sc (.int k'' n))) :
    OpSim P nid E h w o a (.p (.sc (.int k' (k'.wrap n)))) h := by
  have hu := Rep.ev henv x
  rw [hx] at hu
  have e1 : a.eval x = .int k'' n := hu.sc_inv
  refine OpSim.pure hw (val := .int k' (k'.wrap n)) ?_ (.p (.sc _))
  simp [execOp, ho, e1, convert, run_underlying (intT_spec hs), run_underlying (intT_spec hd), Conv.intToInt]
end

end Go.Ab

set_option linter.unusedVariables false
set_option linter.unusedSimpArgs false
namespace Go.Ab
open Go

theorem add_mk (g off n : Nat) : (⟨g, off, none⟩ : Addr).add n = ⟨g, off + n, none⟩ := by
  unfold Addr.add; split
  · rename_i h; subst h; rfl
  · rfl

/-! ### How chunks stay -/

theorem ArrOK.keep {E E' : Env} {w w' : World} {e : TypeId} {sz : Nat} {rows : List (List PV)} {v : Value} (h : ArrOK E w e sz rows v) (hE : ILe E.I E'.I)
    (hk : ∀ g, v.ownBlock = some g → w'.heap[g]? = w.heap[g]?) (hI : ∀ g, v.ownBlock = some g → E'.I g = none) : ArrOK E' w' e sz rows v := by
  obtain ⟨xs, ho, hr, hx, h1, hn⟩ := h
  refine ⟨xs, ⟨ho.1, ?_⟩, hr, fun i j r x e1 e2 => ?_, h1, hI⟩
  · rcases ho.2 with hc | ⟨g, cap, cur, rfl, hb, hg, rest⟩
    · exact .inl hc
    · exact .inr ⟨g, cap, cur, rfl, hb, (hk g (by simp [Value.ownBlock])).trans hg, rest⟩
  · obtain ⟨u, hu, hr⟩ := hx i j r x e1 e2
    exact ⟨u, hu, hr.mono hE⟩

theorem ownBlock_eq (v : Value) : v.ownBlock = (ChI.sl v).block := by
  cases v <;> first | rfl | (rename_i a n c; cases a <;> rfl)

theorem CkOK.keep {E E' : Env} {w w' : World} {ci : ChI} {ck : Option Ck} (h : CkOK E w ci ck) (hE : ELe E E')
    (hk : Ck.owned ck = true → ∀ g, ci.block = some g → w'.heap[g]? = w.heap[g]?) (hI : Ck.owned ck = true → ∀ g, ci.block = some g → E'.I g = none) : CkOK E' w' ci ck := by
  match ck, h with
  | none, _ => trivial
  | some (.box t cells), ⟨g, vs, e, hg, hs, hc, hn⟩ =>
    subst e
    refine ⟨g, vs, rfl, (hk rfl g rfl).trans hg, hs, fun j x hx => ?_, hI rfl g rfl⟩
    obtain ⟨v, hv, hr⟩ := hc j x hx
    exact ⟨v, hv, hr.mono hE⟩
  | some (.arr e sz rows), ⟨v, e1, ha⟩ =>
    subst e1
    exact ⟨v, rfl, ha.keep hE.I (fun g hg => hk rfl g (by rw [← ownBlock_eq]; exact hg)) (fun g hg => hI rfl g (by rw [← ownBlock_eq]; exact hg))⟩
  | some (.fz rows), ⟨v, e1, ha⟩ => exact ⟨v, e1, ha.mono hE.I⟩

theorem CkOK.immNone {E : Env} {w : World} {ci : ChI} {ck : Option Ck} (h : CkOK E w ci ck) (ho : Ck.owned ck = true) {g : Nat} (hg : ci.block = some g) : E.I g = none := by
  match ck, h with
  | some (.box t cells), ⟨g', vs, e, _, _, _, hn⟩ => subst e; simp [ChI.block] at hg; subst hg; exact hn
  | some (.arr e sz rows), ⟨v, e1, xs, _, _, _, _, hn⟩ => subst e1; exact hn g (by rw [ownBlock_eq]; exact hg)

theorem CkOK.there {E : Env} {w : World} {ci : ChI} {ck : Option Ck} (h : CkOK E w ci ck) (ho : Ck.owned ck = true) {g : Nat} (hg : ci.block = some g) : g < w.heap.size := by
  match ck, h with
  | some (.box t cells), ⟨g', vs, e, hh, _, _, hn⟩ => subst e; simp [ChI.block] at hg; subst hg; exact (Array.getElem?_eq_some_iff.1 hh).1
  | some (.arr e sz rows), ⟨v, e1, xs, hw, _⟩ => subst e1; exact (hw.lt g (by rw [ownBlock_eq]; exact hg)).2

theorem CkOK.born {E : Env} {w : World} {ci : ChI} {ck : Ck} (h : CkOK E w ci (some ck)) : ci ≠ .unborn := by
  intro e
  subst e
  match ck, h with
  | .box t cells, ⟨g, vs, e, _⟩ => cases e
  | .arr e sz rows, ⟨v, e1, _⟩ => cases e1
  | .fz rows, ⟨v, e1, _⟩ => cases e1

/-- A chunk that is written: its block alone turns. -/
theorem WOK.touch {E : Env} {h : AHeap} {w w' : World} (hw : WOK E h w) {id g : Nat} (ho : Ck.owned (h id) = true) (hg : (E.ch id).block = some g)
    (hb : ∀ g', g' ≠ g → w'.heap[g']? = w.heap[g']?) {ck : Option Ck} (hck : CkOK E w' (E.ch id) ck) : WOK E (upd h id ck) w' := by
  have hI := (hw.ck id).immNone ho hg
  refine ⟨fun g' o e => ?_, fun id' => ?_, fun i j g' hij h1 h2 e1 => ?_⟩
  · rw [hb g' (fun e' => by subst e'; rw [hI] at e; cases e)]
    exact hw.imm g' o e
  · by_cases e : id' = id
    · subst e; rw [upd_same]; exact hck
    · rw [upd_other _ _ e]
      exact (hw.ck id').keep (.refl _) (fun h1 g' e1 => hb g' (fun e2 => by subst e2; exact hw.dist id id' g' (Ne.symm e) ho h1 hg e1)) (fun h1 g' e1 => (hw.ck id').immNone h1 e1)
  · have a1 : Ck.owned (h i) = true := by
      by_cases e : i = id
      · subst e; exact ho
      · rw [upd_other _ _ e] at h1; exact h1
    have a2 : Ck.owned (h j) = true := by
      by_cases e : j = id
      · subst e; exact ho
      · rw [upd_other _ _ e] at h2; exact h2
    exact hw.dist i j g' hij a1 a2 e1

theorem Moved.touch {E : Env} {h : AHeap} {w w' : World} {id g : Nat} (ho : Ck.owned (h id) = true) (hg : (E.ch id).block = some g) (hs : w.heap.size ≤ w'.heap.size)
    (hb : ∀ g', g' ≠ g → w'.heap[g']? = w.heap[g']?) {ck : Option Ck} (hsm : w'.os = w.os ∧ w'.output = w.output := by exact ⟨rfl, rfl⟩) : Moved E h w E (upd h id ck) w' := by
  refine ⟨hs, fun g' _ hn => hb g' (fun e => hn ⟨id, ho, by rw [e]; exact hg⟩), fun _ _ e => .inl e, fun g' e => .inr ?_, hsm⟩
  obtain ⟨i, h1, h2⟩ := e
  by_cases e : i = id
  · subst e; exact ⟨i, ho, h2⟩
  · rw [upd_other _ _ e] at h1; exact ⟨i, h1, h2⟩

/-- A new chunk. -/
theorem WOK.new {E : Env} {h : AHeap} {w w' : World} (hw : WOK E h w) {nid : Nat} (hu : E.ch nid = .unborn) (hs : w.heap.size ≤ w'.heap.size)
    (hb : ∀ g, g < w.heap.size → w'.heap[g]? = w.heap[g]?) {ci : ChI} {ck : Option Ck} (hci : ∀ g, ci.block = some g → w.heap.size ≤ g)
    (hck : CkOK { E with ch := upd E.ch nid ci } w' ci ck) : WOK { E with ch := upd E.ch nid ci } (upd h nid ck) w' := by
  have hle : ELe E { E with ch := upd E.ch nid ci } := ⟨.refl _, fun id => by
    by_cases e : id = nid
    · subst e; exact .inl hu
    · right; left; show upd E.ch nid ci id = _; rw [upd_other _ _ e]⟩
  refine ⟨fun g o e => ?_, fun id => ?_, fun i j g hij h1 h2 e1 => ?_⟩
  · have := hw.imm g o e
    rw [hb g (Array.getElem?_eq_some_iff.1 this).1]
    exact this
  · show CkOK _ w' (upd E.ch nid ci id) _
    by_cases e : id = nid
    · subst e; rw [upd_same, upd_same]; exact hck
    · rw [upd_other _ _ e, upd_other _ _ e]
      exact (hw.ck id).keep hle (fun h1 g e1 => hb g ((hw.ck id).there h1 e1)) (fun h1 g e1 => (hw.ck id).immNone h1 e1)
  · replace e1 : (upd E.ch nid ci i).block = some g := e1
    show (upd E.ch nid ci j).block ≠ some g
    by_cases ei : i = nid
    · subst ei
      have hj : j ≠ i := Ne.symm hij
      rw [upd_same] at e1
      rw [upd_other _ _ hj] at h2 ⊢
      intro e2
      have := (hw.ck j).there h2 e2
      have := hci g e1
      omega
    · rw [upd_other _ _ ei] at h1 e1
      by_cases ej : j = nid
      · subst ej
        rw [upd_same]
        intro e2
        have := (hw.ck i).there h1 e1
        have := hci g e2
        omega
      · rw [upd_other _ _ ej] at h2 ⊢
        exact hw.dist i j g hij h1 h2 e1

theorem Moved.new {E : Env} {h : AHeap} {w w' : World} {nid : Nat} (hs : w.heap.size ≤ w'.heap.size)
    (hb : ∀ g, g < w.heap.size → w'.heap[g]? = w.heap[g]?) {ci : ChI} {ck : Option Ck} (hci : ∀ g, ci.block = some g → w.heap.size ≤ g) (hsm : w'.os = w.os ∧ w'.output = w.output := by exact ⟨rfl, rfl⟩) :
    Moved E h w { E with ch := upd E.ch nid ci } (upd h nid ck) w' := by
  refine ⟨hs, fun g hg _ => hb g hg, fun _ _ e => .inl e, fun g e => ?_, hsm⟩
  obtain ⟨i, h1, h2⟩ := e
  have h2 : (upd E.ch nid ci i).block = some g := h2
  by_cases e : i = nid
  · subst e; rw [upd_same] at h2; exact .inl (hci g h2)
  · rw [upd_other _ _ e] at h1 h2; exact .inr ⟨i, h1, h2⟩

theorem EStep.new (E : Env) (nid : Nat) (ci : ChI) : EStep nid E { E with ch := upd E.ch nid ci } :=
  ⟨.refl _, fun id e => .inl (by show upd E.ch nid ci id = _; rw [upd_other _ _ e])⟩

theorem alloc_old (w : World) (o : Obj) (g : Nat) (h : g < w.heap.size) : (w.alloc o).heap[g]? = w.heap[g]? := by
  show (w.heap.push o)[g]? = w.heap[g]?
  rw [Array.getElem?_push, if_neg (Nat.ne_of_lt h)]
theorem alloc_new (w : World) (o : Obj) : (w.alloc o).heap[w.heap.size]? = some o := by
  show (w.heap.push o)[w.heap.size]? = some o
  simp
theorem alloc_size (w : World) (o : Obj) : (w.alloc o).heap.size = w.heap.size + 1 := by
  show (w.heap.push o).size = _
  simp

/-- A new variable. -/
theorem sim_newVar {P : Program} {nid : Nat} {E : Env} {h : AHeap} {w : World} {o : Oper} {a : Act} (hw : WOK E h w) (hu : E.ch nid = .unborn) {t : TypeId} {v : Value} {cells : List AV}
    (hr : RepL E cells v.cells.toList)
    (hrun : (execOp a.eval o).run P w = .ok (.value (.pointer (some ⟨w.heap.size, 0, none⟩))) (w.alloc (.cells v.cells t))) :
    OpSim P nid E h w o a (.ptr nid 0) (upd h nid (some (.box t cells))) := by
  have hle : ELe E { E with ch := upd E.ch nid (.blk w.heap.size) } := (EStep.new E nid _).le hu
  have hs : w.heap.size ≤ (w.alloc (.cells v.cells t)).heap.size := by rw [alloc_size]; omega
  have hci : ∀ g, (ChI.blk w.heap.size).block = some g → w.heap.size ≤ g := fun g e => by simp [ChI.block] at e; omega
  have hI : E.I w.heap.size = none := by
    cases hi : E.I w.heap.size with
    | none => rfl
    | some o => have := (Array.getElem?_eq_some_iff.1 (hw.imm _ _ hi)).1; omega
  refine ⟨_, _, { E with ch := upd E.ch nid (.blk w.heap.size) }, .inl hrun, .ptr (upd_same _ _ _), .new E nid _, ?_, .new hs (alloc_old w _) hci⟩
  refine hw.new hu hs (alloc_old w _) hci ⟨_, _, rfl, alloc_new w _, by simpa using hr.1.symm, fun j x hx => ?_, hI⟩
  obtain ⟨u, hu, hh⟩ := (hr.mono hle).2 j x hx
  exact ⟨u, by simpa using hu, hh⟩

section
variable {P : Program} {nid : Nat} {E : Env} {h : AHeap} {w : World} {o : Oper} {a : Act} {env : AEnv}
variable (hw : WOK E h w) (henv : ∀ k, Rep E (env k) (a.tmps.getD k undef))
include hw henv

omit henv in
theorem sim_alloc {t : TypeId} {y : TyF} (hu : E.ch nid = .unborn) (ho : o.op = .alloc t) (ht : tyf P t = some y) :
    OpSim P nid E h w o a (.ptr nid 0) (upd h nid (some (.box t (y.zero.cells.toList.map cst1)))) := by
  refine sim_newVar hw hu (v := y.zero) ?_ ?_
  · refine ⟨by simp, fun i x hx => ?_⟩
    simp only [List.getElem?_map] at hx
    cases hc : y.zero.cells.toList[i]? with
    | none => rw [hc] at hx; cases hx
    | some u => rw [hc] at hx; injection hx with hx; subst hx; exact ⟨u, rfl, Rep.cst1 u⟩
  · simp [execOp, ho, Instr.alloc, run_zeroT ht, newVar, newRow]

theorem sim_box {t : TypeId} {x : Operand} {cells : List AV} (hu : E.ch nid = .unborn) (ho : o.op = .box t x) (hx : cellsL (ev env x) = some cells) :
    OpSim P nid E h w o a (.ptr nid 0) (upd h nid (some (.box t cells))) := by
  refine sim_newVar hw hu (v := a.eval x) (cellsL_rep (Rep.ev henv x) hx).1 ?_
  simp [execOp, ho, Instr.box, newVar, newRow]

/-! ### Addresses -/

def offA (n : Nat) : AV → Option AV
  | .ptr id off => some (.ptr id (off + n))
  | .apt id sz i j => some (.apt id sz i (j + n))
  | .rpt row j => some (.rpt row (j + n))
  | _ => none

omit hw henv in
theorem offA_rep {x y : AV} {v : Value} {n : Nat} (hr : Rep E x v) (hy : offA n x = some y) : ∃ ad, v = .pointer (some ad) ∧ (∃ g off, ad = ⟨g, off, none⟩ ∨ True) ∧ Rep E y (.pointer (some (ad.add n))) := by
  cases hr <;> simp only [offA] at hy <;> try (cases hy; done)
  all_goals (injection hy with hy; subst hy)
  · rename_i hc; exact ⟨_, rfl, ⟨0, 0, .inr trivial⟩, by rw [add_mk]; exact .ptr hc⟩
  · rename_i q hc; exact ⟨_, rfl, ⟨0, 0, .inr trivial⟩, .ptrd _ hc⟩
  · rename_i hc; exact ⟨_, rfl, ⟨0, 0, .inr trivial⟩, by rw [add_mk, Nat.add_assoc]; exact .apt hc⟩
  · rename_i q hc; exact ⟨_, rfl, ⟨0, 0, .inr trivial⟩, .aptd _ hc⟩
  · rename_i g off vs hcell h1 hrep; exact ⟨_, rfl, ⟨0, 0, .inr trivial⟩, by rw [add_mk, Nat.add_assoc]; exact .rpt g off vs hcell h1 hrep⟩

theorem sim_fieldAddr {t : TypeId} {f n sz : Nat} {b : Bool} {x : Operand} {y : AV} (ho : o.op = .fieldAddr t x f) (ht : fOff P t f = some (n, sz, b)) (hy : offA n (ev env x) = some y) :
    OpSim P nid E h w o a y h := by
  obtain ⟨ad, e, -, hr⟩ := offA_rep (Rep.ev henv x) hy
  refine OpSim.pure hw (val := .pointer (some (ad.add n))) ?_ hr
  unfold fOff at ht
  split at ht
  · rename_i fs hfs
    split at ht
    · rename_i fld hfld
      split at ht
      · rename_i y hty
        split at ht
        · cases ht
        · rename_i hne
          injection ht with ht
          injection ht with ht1 ht2
          subst ht1
          have hsz := run_sizeT hty w
          simp [execOp, ho, e, Instr.fieldAt, run_underlying hfs, hfld, Instr.sureAddr, fieldPlace, hsz, hne]
      · cases ht
    · cases ht
  · cases ht

/-- A part of cells. -/
def takeT (agg : Bool) (size : Nat) (cells : List AV) (off : Nat) : Option AV :=
  if agg then (if off + size ≤ cells.length then some (.agg ((cells.drop off).take size)) else none) else cells[off]?

omit hw henv in
theorem takeT_vals {agg : Bool} {size off : Nat} {cells : List AV} {vs : List Value} {y : AV} (hr : RepL E cells vs) (hy : takeT agg size cells off = some y) :
    (agg = true → off + size ≤ vs.length ∧ Rep E y (.agg ((vs.drop off).take size).toArray)) ∧ (agg = false → ∃ v, vs[off]? = some v ∧ Rep E y v) := by
  unfold takeT at hy
  cases agg with
  | true =>
    simp only [if_true] at hy
    split at hy
    · rename_i hle
      injection hy with hy
      subst hy
      refine ⟨fun _ => ⟨by rw [← hr.1]; exact hle, RepL.agg ⟨?_, fun i x hx => ?_⟩⟩, fun h => by cases h⟩
      · simp [hr.1]
      · simp only [List.getElem?_take, List.getElem?_drop] at hx ⊢
        split at hx
        · rename_i hi
          obtain ⟨v, hv, hh⟩ := hr.2 (off + i) x hx
          exact ⟨v, by simp [hi, hv], hh⟩
        · cases hx
    · cases hy
  | false =>
    simp only [Bool.false_eq_true, if_false] at hy
    exact ⟨fun h => (by cases h), fun _ => hr.2 off y hy⟩

theorem sim_field {t : TypeId} {f n sz : Nat} {b : Bool} {x : Operand} {xs : List AV} {y : AV} (ho : o.op = .field t x f) (ht : fOff P t f = some (n, sz, b)) (hx : ev env x = .agg xs)
    (hy : takeT b sz xs n = some y) : OpSim P nid E h w o a y h := by
  have hr := Rep.ev henv x
  rw [hx] at hr
  obtain ⟨vs, e⟩ : ∃ vs, a.eval x = .agg vs := by
    generalize a.eval x = v at hr
    cases hr with | agg vs => exact ⟨vs, rfl⟩
  rw [e] at hr
  have hl := RepL.of_agg hr
  have hv := takeT_vals hl hy
  unfold fOff at ht
  split at ht
  · rename_i fs hfs
    split at ht
    · rename_i fld hfld
      split at ht
      · rename_i yt hty
        split at ht
        · cases ht
        · injection ht with ht
          injection ht with ht1 ht2
          injection ht2 with ht2 ht3
          subst ht1; subst ht2; subst ht3
          have hsz := run_sizeT hty w
          have hag := run_isAgg hty w
          cases hb : yt.agg with
          | true =>
            obtain ⟨hle, hrr⟩ := hv.1 hb
            refine OpSim.pure hw ?_ hrr
            have : (vs.extract fld.offset (fld.offset + yt.size)) = ((vs.toList.drop fld.offset).take yt.size).toArray := by
              apply Array.ext'
              simp [List.extract_eq_take_drop]
            simp [execOp, ho, e, Instr.field, run_underlying hfs, hfld, part, hag, hb, hsz, asAgg, this]
          | false =>
            obtain ⟨v, hv1, hrr⟩ := hv.2 hb
            refine OpSim.pure hw ?_ hrr
            have hv2 : vs[fld.offset]? = some v := by simpa using hv1
            simp [execOp, ho, e, Instr.field, run_underlying hfs, hfld, part, hag, hb, asAgg, hv2]
      · cases ht
    · cases ht
  · cases ht
end

end Go.Ab

set_option linter.unusedVariables false
set_option linter.unusedSimpArgs false
namespace Go.Ab
open Go

theorem RepI.nil {I : Nat → Option Obj} : RepI I (.fro []) (.slice none 0 0) :=
  .fro 0 [] none 0 0 0 (fun _ _ => undef) (fun h => absurd h (by simp)) (Nat.le_refl _) (fun r h => by simp at h) (fun i j h => absurd h (by simp)) (fun i j h => absurd h (by simp)) (fun i j r x h => by simp at h)

theorem Rep.fro_inv {E : Env} {rows : List (List PV)} {v : Value} (h : Rep E (.p (.fro rows)) v) :
    ∃ A c, v = .slice A rows.length c ∧ rows.length ≤ c ∧ RepI E.I (.fro rows) (.slice A rows.length c) := by
  cases h with
  | p h =>
    cases h with
    | fro sz rows A g off c vs hA hc hr hcell h1 hrep => exact ⟨A, c, rfl, hc, .fro sz rows A g off c vs hA hc hr hcell h1 hrep⟩

theorem Rep.ref_inv {E : Env} {id n : Nat} {v : Value} (h : Rep E (.ref id n) v) :
    ∃ A c, v = .slice A n c ∧ (0 < n → ∃ g off, A = some ⟨g, off, none⟩) ∧ (E.ch id = .sl (.slice A n c) ∨ E.ch id = .dead) := by
  cases h with
  | ref h hA => exact ⟨_, _, rfl, hA, .inl h⟩
  | refd A c h hA => exact ⟨_, _, rfl, hA, .inr h⟩

/-- A row of immutable memory: where it lies. -/
theorem RepI.row {I : Nat → Option Obj} {rows : List (List PV)} {A : Option Addr} {n c : Nat} (h : RepI I (.fro rows) (.slice A n c)) {i : Nat} (hi : i < rows.length) :
    ∃ g off, A = some ⟨g, off, none⟩ ∧ ∀ row, rows[i]? = some row → ∃ vs : Nat → Value,
      (∀ k, k < row.length → icell I ⟨g, off + i * row.length + k, none⟩ = some (vs k)) ∧ (∀ k, k < row.length → (vs k).oneCell' = true) ∧ ∀ k x, row[k]? = some x → RepI I x (vs k) := by
  cases h with
  | fro sz rows A g off c vs hA hc hr hcell h1 hrep =>
    refine ⟨g, off, hA (by omega), fun row hrow => ⟨vs i, fun k hk => ?_, fun k hk => ?_, fun k x hx => hrep i k row x hrow hx⟩⟩
    · have := hr row (List.mem_of_getElem? hrow)
      rw [this] at hk ⊢
      exact hcell i k hi hk
    · have := hr row (List.mem_of_getElem? hrow)
      rw [this] at hk
      exact h1 i k hi hk

section
variable {P : Program} {nid : Nat} {E : Env} {h : AHeap} {w : World} {o : Oper} {a : Act} {env : AEnv}
variable (hw : WOK E h w) (henv : ∀ k, Rep E (env k) (a.tmps.getD k undef))
include hw henv

theorem sim_idx_fro {t e : TypeId} {y : TyF} {x ix : Operand} {rows : List (List PV)} {k : IntKind} {i : Int} {row : List PV} (ho : o.op = .indexAddr t x ix) (ht : slE P t = some e) (hy : tyf P e = some y)
    (hx : ev env x = .p (.fro rows)) (hi : ev env ix = .p (.sc (.int k i))) (h0 : 0 ≤ i) (hrow : rows[i.toNat]? = some row) (hs : row.length = y.size) :
    OpSim P nid E h w o a (.rpt row 0) h := by
  have hlt : i.toNat < rows.length := (List.getElem?_eq_some_iff.1 hrow).1
  have hr := Rep.ev henv x
  rw [hx] at hr
  have e2 : a.eval ix = .int k i := by have := Rep.ev henv ix; rw [hi] at this; exact this.sc_inv
  obtain ⟨A, c, e1, hc, hI⟩ := hr.fro_inv
  obtain ⟨g, off, rfl, hg⟩ := hI.row hlt
  obtain ⟨vs, h1, h2, h3⟩ := hg row hrow
  refine OpSim.pure hw (val := .pointer (some ⟨g, off + i.toNat * y.size + 0, none⟩)) ?_ (.rpt g _ vs (by rw [← hs]; exact h1) h2 h3)
  have hin : 0 ≤ i ∧ i < (rows.length : Int) := ⟨h0, by omega⟩
  have hsz := run_sizeT hy w
  simp [execOp, ho, e1, e2, Instr.indexAt, asIntOf, run_underlying (slE_spec ht), hin, hsz, add_mk]

theorem sim_idx_ref {t e : TypeId} {y : TyF} {x ix : Operand} {id n : Nat} {k : IntKind} {i : Int} (ho : o.op = .indexAddr t x ix) (ht : slE P t = some e) (hy : tyf P e = some y)
    (hx : ev env x = .ref id n) (hi : ev env ix = .p (.sc (.int k i))) (h0 : 0 ≤ i) (h1 : i < n) :
    OpSim P nid E h w o a (.apt id y.size i.toNat 0) h := by
  have hr := Rep.ev henv x
  rw [hx] at hr
  have e2 : a.eval ix = .int k i := by have := Rep.ev henv ix; rw [hi] at this; exact this.sc_inv
  obtain ⟨A, c, e1, hA, hd⟩ := hr.ref_inv
  obtain ⟨g, off, rfl⟩ := hA (by omega)
  have hsz := run_sizeT hy w
  have hin : 0 ≤ i ∧ i < (n : Int) := ⟨h0, h1⟩
  refine OpSim.pure hw (val := .pointer (some ⟨g, off + i.toNat * y.size + 0, none⟩)) ?_ ?_
  · simp [execOp, ho, e1, e2, Instr.indexAt, asIntOf, run_underlying (slE_spec ht), hin, hsz, add_mk]
  · rcases hd with hd | hd
    · exact .apt hd
    · exact .aptd _ hd

theorem sim_idx_arr {t e : TypeId} {n : Nat} {y : TyF} {x ix : Operand} {k : IntKind} {i : Int} {r : AV} (ho : o.op = .indexAddr t x ix) (ht : arE P t = some (n, e)) (hy : tyf P e = some y)
    (hi : ev env ix = .p (.sc (.int k i))) (h0 : 0 ≤ i) (h1 : i < n) (hx : offA (i.toNat * y.size) (ev env x) = some r) :
    OpSim P nid E h w o a r h := by
  obtain ⟨ad, e1, -, hr⟩ := offA_rep (Rep.ev henv x) hx
  have e2 : a.eval ix = .int k i := by have := Rep.ev henv ix; rw [hi] at this; exact this.sc_inv
  have hsz := run_sizeT hy w
  have hin : 0 ≤ i ∧ i < (n : Int) := ⟨h0, h1⟩
  refine OpSim.pure hw (val := .pointer (some (ad.add (i.toNat * y.size)))) ?_ hr
  simp [execOp, ho, e1, e2, Instr.indexAt, asIntOf, run_underlying (arE_spec ht), hin, hsz, Instr.sureAddr]

theorem sim_index_arr {t e : TypeId} {n : Nat} {y : TyF} {x ix : Operand} {k : IntKind} {i : Int} {xs : List AV} {r : AV} (ho : o.op = .index t x ix) (ht : arE P t = some (n, e)) (hy : tyf P e = some y)
    (hi : ev env ix = .p (.sc (.int k i))) (h0 : 0 ≤ i) (h1 : i < n) (hx : ev env x = .agg xs) (hr : takeT y.agg y.size xs (i.toNat * y.size) = some r) :
    OpSim P nid E h w o a r h := by
  have hv := Rep.ev henv x
  rw [hx] at hv
  have e2 : a.eval ix = .int k i := by have := Rep.ev henv ix; rw [hi] at this; exact this.sc_inv
  obtain ⟨vs, e1⟩ : ∃ vs, a.eval x = .agg vs := by
    generalize a.eval x = v at hv
    cases hv with | agg vs => exact ⟨vs, rfl⟩
  rw [e1] at hv
  have hl := RepL.of_agg hv
  have hvv := takeT_vals hl hr
  have hsz := run_sizeT hy w
  have hag := run_isAgg hy w
  have hin : 0 ≤ i ∧ i < (n : Int) := ⟨h0, h1⟩
  cases hb : y.agg with
  | true =>
    obtain ⟨hle, hrr⟩ := hvv.1 hb
    refine OpSim.pure hw ?_ hrr
    have : (vs.extract (i.toNat * y.size) (i.toNat * y.size + y.size)) = ((vs.toList.drop (i.toNat * y.size)).take y.size).toArray := by
      apply Array.ext'
      simp [List.extract_eq_take_drop]
    simp [execOp, ho, e1, e2, Instr.index, asIntOf, run_underlying (arE_spec ht), hin, hsz, part, hag, hb, this]
  | false =>
    obtain ⟨v, hv1, hrr⟩ := hvv.2 hb
    refine OpSim.pure hw ?_ hrr
    have hv2 : vs[i.toNat * y.size]? = some v := by simpa using hv1
    simp [execOp, ho, e1, e2, Instr.index, asIntOf, run_underlying (arE_spec ht), hin, hsz, part, hag, hb, hv2]

/-! ### Lengths -/

def lenA : AV → Option Nat
  | .nil => some 0
  | .p (.fro rows) => some rows.length
  | .ref _ n => some n
  | .p (.sc (.string s)) => some s.size
  | _ => none

def lenT (P : Program) (t : TypeId) : Bool :=
  match P.underlying t with
  | some (.slice _) => true
  | some .string => true
  | _ => false

theorem sim_len {t : TypeId} {x : Operand} {n : Nat} (ho : o.op = .call { callee := .builtin .len, args := #[x], argTypes := #[t] }) (ht : lenT P t = true) (hx : lenA (ev env x) = some n)
    (hs : (∃ s, ev env x = .p (.sc (.string s))) ↔ P.underlying t = some .string) :
    OpSim P nid E h w o a (.p (.sc (.int .i64 n))) h := by
  have hr := Rep.ev henv x
  refine OpSim.pure hw (val := .int .i64 n) ?_ (.p (.sc _))
  unfold lenT at ht
  split at ht
  · rename_i e he
    have hns : ∀ s, ev env x ≠ .p (.sc (.string s)) := fun s hs' => by have := hs.1 ⟨s, hs'⟩; rw [he] at this; cases this
    obtain ⟨A, c, e1⟩ : ∃ A c, a.eval x = .slice A n c := by
      generalize ev env x = y at hr hx hns
      generalize a.eval x = v at hr
      unfold lenA at hx
      split at hx <;> try (cases hx; done)
      · injection hx with hx; subst hx; cases hr; exact ⟨_, _, rfl⟩
      · injection hx with hx; subst hx; obtain ⟨A, c, e1, -⟩ := hr.fro_inv; exact ⟨A, c, e1⟩
      · injection hx with hx; subst hx; obtain ⟨A, c, e1, -⟩ := hr.ref_inv; exact ⟨A, c, e1⟩
      · exact absurd rfl (hns _)
    simp [execOp, ho, resolve, invoke, builtin, Builtin.len_, run_underlying he, e1, goInt]
  · rename_i he
    obtain ⟨s, hs'⟩ := hs.2 he
    rw [hs'] at hx hr
    have e1 := hr.sc_inv
    have : s.size = n := by simpa [lenA] using hx
    simp [execOp, ho, resolve, invoke, builtin, Builtin.len_, run_underlying he, e1, goInt, this]
  · cases ht

theorem sim_min' {ats : Array TypeId} {x y : Operand} {k k' : IntKind} {m n : Int} (ho : o.op = .call { callee := .builtin .min, args := #[x, y], argTypes := ats })
    (hx : ev env x = .p (.sc (.int k m))) (hy : ev env y = .p (.sc (.int k' n))) : OpSim P nid E h w o a (.p (.sc (.int k (if n < m then n else m)))) h := by
  have e1 : a.eval x = .int k m := by have := Rep.ev henv x; rw [hx] at this; exact this.sc_inv
  have e2 : a.eval y = .int k' n := by have := Rep.ev henv y; rw [hy] at this; exact this.sc_inv
  refine OpSim.pure hw (val := .int k (if n < m then n else m)) ?_ (.p (.sc _))
  simp [execOp, ho, resolve, invoke, builtin, Builtin.min_, Builtin.min2, e1, e2]

theorem sim_max' {ats : Array TypeId} {x y : Operand} {k k' : IntKind} {m n : Int} (ho : o.op = .call { callee := .builtin .max, args := #[x, y], argTypes := ats })
    (hx : ev env x = .p (.sc (.int k m))) (hy : ev env y = .p (.sc (.int k' n))) : OpSim P nid E h w o a (.p (.sc (.int k (if n > m then n else m)))) h := by
  have e1 : a.eval x = .int k m := by have := Rep.ev henv x; rw [hx] at this; exact this.sc_inv
  have e2 : a.eval y = .int k' n := by have := Rep.ev henv y; rw [hy] at this; exact this.sc_inv
  refine OpSim.pure hw (val := .int k (if n > m then n else m)) ?_ (.p (.sc _))
  simp [execOp, ho, resolve, invoke, builtin, Builtin.max_, Builtin.max2, e1, e2]

/-! ### Loads -/

omit hw henv in
theorem icell_cell {I : Nat → Option Obj} (hi : ∀ g o, I g = some o → w.heap[g]? = some o) {ad : Addr} {v : Value} (hc : icell I ad = some v) : w.cell? ad = some v := by
  unfold icell at hc
  cases hI : I ad.block with
  | none => simp [hI] at hc
  | some ob =>
    rw [hI] at hc
    unfold World.cell?
    rw [hi _ _ hI]
    exact hc

omit hw henv in
theorem run_loadT {t : TypeId} {y : TyF} (ht : tyf P t = some y) {cells : List AV} {vs : List Value} {g base off : Nat} {x : AV} (hr : RepL E cells vs)
    (hc : ∀ k u, vs[k]? = some u → w.cell? ⟨g, base + k, none⟩ = some u) (hy : takeT y.agg y.size cells off = some x) :
    ∃ val, (loadVar t ⟨g, base + off, none⟩).run P w = .ok val w ∧ Rep E x val := by
  have hv := takeT_vals hr hy
  have hsz := run_sizeT ht w
  have hag := run_isAgg ht w
  cases hb : y.agg with
  | true =>
    obtain ⟨hle, hrr⟩ := hv.1 hb
    refine ⟨_, ?_, hrr⟩
    have hl : ((vs.drop off).take y.size).length = y.size := by simp; omega
    have := run_loadCells_list (P := P) w ⟨g, base + off, none⟩ ((vs.drop off).take y.size) (fun j v hj => by
      rw [add_mk, Nat.add_assoc]
      simp only [List.getElem?_take, List.getElem?_drop] at hj
      split at hj
      · exact hc _ _ hj
      · cases hj)
    rw [hl] at this
    simp [loadVar, hag, hb, hsz, this]
  | false =>
    obtain ⟨v, hv1, hrr⟩ := hv.2 hb
    refine ⟨v, ?_, hrr⟩
    simp [loadVar, hag, hb, run_load, hc off v hv1]

def loadA (h : AHeap) (y : TyF) : AV → Option AV
  | .ptr id off => match h id with
    | some (.box _ cells) => takeT y.agg y.size cells off
    | _ => none
  | .apt id sz i j => match h id with
    | some (.arr _ sz' rows) => if sz = sz' then (match rows[i]? with | some row => takeT y.agg y.size (row.map .p) j | none => none) else none
    | some (.fz rows) => match rows[i]? with
      | some row => if row.length = sz then takeT y.agg y.size (row.map .p) j else none
      | none => none
    | _ => none
  | .rpt row j => takeT y.agg y.size (row.map .p) j
  | _ => none

omit hw henv in
theorem load_run (hw : WOK E h w) {t : TypeId} {y : TyF} {z r : AV} {v : Value} (ht : tyf P t = some y) (hv : Rep E z v) (hr : loadA h y z = some r) :
    ∃ ad val, v = .pointer (some ad) ∧ (loadVar t ad).run P w = .ok val w ∧ Rep E r val := by
  have fin : ∀ (g base off : Nat) (cells : List AV) (vs : List Value), RepL E cells vs → (∀ k u, vs[k]? = some u → w.cell? ⟨g, base + k, none⟩ = some u) →
      takeT y.agg y.size cells off = some r → v = .pointer (some ⟨g, base + off, none⟩) → ∃ ad val, v = .pointer (some ad) ∧ (loadVar t ad).run P w = .ok val w ∧ Rep E r val := by
    intro g base off cells vs h1 h2 h3 h4
    obtain ⟨val, hrun, hrep⟩ := run_loadT (P := P) ht h1 h2 h3
    exact ⟨_, val, h4, hrun, hrep⟩
  unfold loadA at hr
  split at hr
  · rename_i id off
    split at hr
    · rename_i t' cells hid
      have hk := hw.ck id
      rw [hid] at hk
      obtain ⟨g, vs, e1, hg, hs, hcl, -⟩ := hk
      cases hv with
      | ptrd q hd => rw [e1] at hd; cases hd
      | ptr hb =>
        rw [e1] at hb
        injection hb with hb
        subst hb
        refine fin g 0 off cells vs.toList ⟨by simp [hs], fun i x hx => ?_⟩ (fun k u hu => ?_) hr (by simp)
        · obtain ⟨u, hu, hh⟩ := hcl i x hx; exact ⟨u, by simpa using hu, hh⟩
        · rw [Nat.zero_add, cell_of_row w g k vs t' (0, 0) hg]; simpa using hu
    · cases hr
  · rename_i id sz i j
    split at hr
    · rename_i e' sz' rows hid
      split at hr
      · rename_i hsz
        subst hsz
        split at hr
        · rename_i row hrow
          have hk := hw.ck id
          rw [hid] at hk
          obtain ⟨sv, e1, xs, hown, hlen, hxs, hone, -⟩ := hk
          cases hv with
          | aptd q hd => rw [e1] at hd; cases hd
          | @apt _ _ _ _ n c g off hb =>
            rw [e1] at hb
            injection hb with hb
            subst hb
            rcases hown.2 with ⟨hh, _⟩ | ⟨g', cap, cur, he, -, hg, hn, hm, hcs, htake⟩
            · cases hh
            · injection he with he1 he2 he3
              injection he1 with he1
              injection he1 with he1 he4
              subst he1; subst he4
              have hrl := hlen row (List.mem_of_getElem? hrow)
              have hil : i < rows.length := (List.getElem?_eq_some_iff.1 hrow).1
              have hle : i * sz + sz ≤ rows.length * sz := by
                have := Nat.mul_le_mul_right sz (show i + 1 ≤ rows.length by omega)
                rw [Nat.add_mul] at this; omega
              have hxl := hown.1
              refine fin g (0 + i * sz) j (row.map .p) ((xs.drop (i * sz)).take sz) ⟨by simp [hrl]; omega, fun k x hx => ?_⟩ (fun k u hu => ?_) hr rfl
              · simp only [List.getElem?_map] at hx
                cases hrk : row[k]? with
                | none => simp [hrk] at hx
                | some px =>
                  simp [hrk] at hx
                  subst hx
                  obtain ⟨u, hu, hh⟩ := hxs i k row px hrow hrk
                  have hkl : k < sz := by have := (List.getElem?_eq_some_iff.1 hrk).1; omega
                  exact ⟨u, by simp [hkl, hu], .p hh⟩
              · simp only [List.getElem?_take, List.getElem?_drop] at hu
                split at hu
                · rw [Nat.zero_add, cell_of_row w g _ cur e' (0, 0) hg]
                  rw [← htake, List.getElem?_take] at hu
                  split at hu
                  · simpa using hu
                  · cases hu
                · cases hu
        · cases hr
      · cases hr
    · rename_i rows hid
      split at hr
      · rename_i row hrow
        split at hr
        · rename_i hrl
          have hk := hw.ck id
          rw [hid] at hk
          obtain ⟨sv, e1, hI⟩ := hk
          have hil : i < rows.length := (List.getElem?_eq_some_iff.1 hrow).1
          cases hv with
          | aptd q hd => rw [e1] at hd; cases hd
          | @apt _ _ _ _ n c g off hb =>
            rw [e1] at hb
            injection hb with hb
            subst hb
            obtain ⟨g', off', hA, hg⟩ := hI.row hil
            injection hA with hA
            injection hA with hA1 hA2
            subst hA1; subst hA2
            obtain ⟨vs, h1, h2, h3⟩ := hg row hrow
            refine fin g (off + i * sz) j (row.map .p) ((List.range row.length).map vs) ⟨by simp, fun k x hx => ?_⟩ (fun k u hu => ?_) hr rfl
            · simp only [List.getElem?_map] at hx
              cases hrk : row[k]? with
              | none => simp [hrk] at hx
              | some px =>
                simp [hrk] at hx
                subst hx
                have hkl : k < row.length := (List.getElem?_eq_some_iff.1 hrk).1
                exact ⟨vs k, by simp [hkl], .p (h3 k px hrk)⟩
            · have hkl : k < row.length := by have := (List.getElem?_eq_some_iff.1 hu).1; simpa using this
              simp [hkl] at hu
              subst hu
              rw [← hrl]
              exact icell_cell hw.imm (h1 k hkl)
        · cases hr
      · cases hr
    · cases hr
  · rename_i row j
    cases hv with
    | rpt g off vs h1 h2 h3 =>
      refine fin g off j (row.map .p) ((List.range row.length).map vs) ⟨by simp, fun k x hx => ?_⟩ (fun k u hu => ?_) hr rfl
      · simp only [List.getElem?_map] at hx
        cases hrk : row[k]? with
        | none => simp [hrk] at hx
        | some px =>
          simp [hrk] at hx
          subst hx
          have hkl : k < row.length := (List.getElem?_eq_some_iff.1 hrk).1
          exact ⟨vs k, by simp [hkl], .p (h3 k px hrk)⟩
      · have hkl : k < row.length := by have := (List.getElem?_eq_some_iff.1 hu).1; simpa using this
        simp [hkl] at hu
        subst hu
        exact icell_cell hw.imm (h1 k hkl)
  · cases hr

theorem sim_load {t : TypeId} {y : TyF} {x : Operand} {r : AV} (ho : o.op = .load t x) (ht : tyf P t = some y) (hr : loadA h y (ev env x) = some r) : OpSim P nid E h w o a r h := by
  obtain ⟨ad, val, e1, hrun, hrep⟩ := load_run (P := P) hw ht (Rep.ev henv x) hr
  refine OpSim.pure hw (val := val) ?_ hrep
  simp [execOp, ho, e1, Instr.loadAt, Instr.sureAddr, hrun]

end

end Go.Ab

set_option linter.unusedVariables false
set_option linter.unusedSimpArgs false
namespace Go.Ab
open Go

def toPV : AV → Option PV
  | .p x => some x
  | .nil => some (.fro [])
  | _ => none

def pvs : List AV → Option (List PV)
  | [] => some []
  | x :: xs => match toPV x, pvs xs with
    | some y, some ys => some (y :: ys)
    | _, _ => none

theorem toPV_rep {E : Env} {x : AV} {v : Value} {y : PV} (h : Rep E x v) (hy : toPV x = some y) : RepI E.I y v := by
  unfold toPV at hy
  split at hy
  · injection hy with hy; subst hy; cases h with | p h => exact h
  · injection hy with hy; subst hy; cases h; exact .nil
  · cases hy

theorem pvs_rep {E : Env} : ∀ {xs : List AV} {vs : List Value} {ys : List PV}, RepL E xs vs → pvs xs = some ys → ys.length = vs.length ∧ ∀ (i : Nat) (y : PV), ys[i]? = some y → ∃ v, vs[i]? = some v ∧ RepI E.I y v
  | [], vs, ys, h, hp => by
    injection hp with hp
    subst hp
    exact ⟨h.1, fun i y hy => by simp at hy⟩
  | x :: xs, vs, ys, h, hp => by
    simp only [pvs] at hp
    split at hp
    · rename_i y ys' e1 e2
      injection hp with hp
      subst hp
      match vs, h with
      | v :: vs, h =>
        have h0 := h.2 0 x rfl
        obtain ⟨v', hv', hr⟩ := h0
        simp at hv'
        subst hv'
        have ht : RepL E xs vs := ⟨by have := h.1; simpa using this, fun i z hz => by obtain ⟨u, hu, hr⟩ := h.2 (i + 1) z (by simpa using hz); exact ⟨u, by simpa using hu, hr⟩⟩
        obtain ⟨g1, g2⟩ := pvs_rep ht e2
        refine ⟨by simp [g1], fun i y' hy' => ?_⟩
        cases i with
        | zero => simp at hy'; subst hy'; exact ⟨v, by simp, toPV_rep hr e1⟩
        | succ i => simp at hy'; obtain ⟨u, hu, hr⟩ := g2 i y' hy'; exact ⟨u, by simpa using hu, hr⟩
    · cases hp

theorem RepL.splice {E : Env} {xs ys : List AV} {vs us : List Value} (h : RepL E xs vs) (h' : RepL E ys us) {off : Nat} (hle : off + ys.length ≤ xs.length) :
    RepL E (xs.take off ++ ys ++ xs.drop (off + ys.length)) (vs.take off ++ us ++ vs.drop (off + us.length)) := by
  have e1 := h.1
  have e2 := h'.1
  refine ⟨by simp; omega, fun i x hx => ?_⟩
  by_cases h1 : i < off
  · rw [List.append_assoc, List.getElem?_append_left (by simp; omega), List.getElem?_take_of_lt h1] at hx
    obtain ⟨v, hv, hr⟩ := h.2 i x hx
    exact ⟨v, by rw [List.append_assoc, List.getElem?_append_left (by simp; omega), List.getElem?_take_of_lt h1]; exact hv, hr⟩
  · by_cases h2 : i < off + ys.length
    · rw [List.append_assoc, List.getElem?_append_right (by simp; omega), List.length_take, Nat.min_eq_left (by omega), List.getElem?_append_left (by omega)] at hx
      obtain ⟨v, hv, hr⟩ := h'.2 _ x hx
      exact ⟨v, by rw [List.append_assoc, List.getElem?_append_right (by simp; omega), List.length_take, Nat.min_eq_left (by omega), List.getElem?_append_left (by omega)]; exact hv, hr⟩
    · rw [List.append_assoc, List.getElem?_append_right (by simp; omega), List.length_take, Nat.min_eq_left (by omega), List.getElem?_append_right (by omega), List.getElem?_drop] at hx
      obtain ⟨v, hv, hr⟩ := h.2 _ x hx
      refine ⟨v, ?_, hr⟩
      rw [List.append_assoc, List.getElem?_append_right (by simp; omega), List.length_take, Nat.min_eq_left (by omega), List.getElem?_append_right (by omega), List.getElem?_drop, ← e2]
      exact hv

theorem take_splice (cur vs : List Value) (n p : Nat) (h : p + vs.length ≤ n) (hn : n ≤ cur.length) :
    (cur.take p ++ vs ++ cur.drop (p + vs.length)).take n = (cur.take n).take p ++ vs ++ (cur.take n).drop (p + vs.length) := by
  have hp : p ≤ cur.length := by omega
  rw [List.append_assoc, List.append_assoc, List.take_append, List.take_append, List.take_take, List.take_take, List.drop_take, List.length_take, Nat.min_eq_left hp, Nat.min_eq_right (by omega), Nat.min_eq_left (by omega), List.take_of_length_le (l := vs) (by omega)]
  congr 3
  omega

/-! ### Stores -/

def storeA (h : AHeap) (y : TyF) (x v : AV) : Option AHeap :=
  match x, cellsL v with
  | .ptr id off, some cs => match h id with
    | some (.box t cells) => if cs.length = y.size ∧ off + cs.length ≤ cells.length then some (upd h id (some (.box t (cells.take off ++ cs ++ cells.drop (off + cs.length))))) else none
    | _ => none
  | .apt id sz i j, some cs => match h id, pvs cs with
    | some (.arr e sz' rows), some ps => match rows[i]? with
      | some row => if sz = sz' ∧ ps.length = y.size ∧ j + ps.length ≤ row.length then some (upd h id (some (.arr e sz' (rows.set i (row.take j ++ ps ++ row.drop (j + ps.length)))))) else none
      | none => none
    | _, _ => none
  | _, _ => none

theorem storeT {P : Program} {w : World} {t : TypeId} {y : TyF} (ht : tyf P t = some y) {g off : Nat} {te : TypeId} {cur : Array Value} {v : Value} (hg : w.heap[g]? = some (.cells cur te (0, 0)))
    (hs : v.cells.size = y.size) (hle : off + v.cells.size ≤ cur.size) (h1 : v.cells.all (·.oneCell') = true) :
    (storeVar t ⟨g, off, none⟩ v).run P w = .ok () (w.setRow g (cur.toList.take off ++ v.cells.toList ++ cur.toList.drop (off + v.cells.toList.length)).toArray) := by
  have hsz := run_sizeT ht w
  have := run_storeCells_at P g off te v.cells.toList 0 cur w hg (by simpa using hle) (fun u hu => Array.all_eq_true_iff_forall_mem.1 h1 u (by simpa using hu))
  simp only [Nat.add_zero] at this
  simp [storeVar, hsz, hs, this]

section
variable {P : Program} {nid : Nat} {E : Env} {h : AHeap} {w : World} {o : Oper} {a : Act} {env : AEnv}
variable (hw : WOK E h w) (henv : ∀ k, Rep E (env k) (a.tmps.getD k undef))
include hw henv

theorem sim_store {t : TypeId} {y : TyF} {x v : Operand} {h' : AHeap} (ho : o.op = .store t x v) (ht : tyf P t = some y) (hr : storeA h y (ev env x) (ev env v) = some h') : OpSim P nid E h w o a .any h' := by
  have hx := Rep.ev henv x
  have hv := Rep.ev henv v
  generalize ev env x = X at hx hr
  generalize ev env v = V at hv hr
  generalize hq : a.eval x = vx at hx
  generalize hu : a.eval v = vv at hv
  unfold storeA at hr
  split at hr
  · rename_i id off cs hcs
    obtain ⟨hl, hone⟩ := cellsL_rep hv hcs
    split at hr
    · rename_i te cells hid
      split at hr
      · rename_i hc
        injection hr with hr
        subst hr
        have hk := hw.ck id
        rw [hid] at hk
        obtain ⟨g, vs, e1, hg, hs, hcl, hI⟩ := hk
        cases hx with
        | ptrd q hd => rw [e1] at hd; cases hd
        | ptr hb =>
          rw [e1] at hb
          injection hb with hb
          subst hb
          have hlen : vv.cells.size = cs.length := by simpa using hl.1.symm
          have hrun := storeT (P := P) (w := w) ht (off := off) (v := vv) hg (by rw [hlen]; exact hc.1) (by rw [hlen, hs]; exact hc.2) hone
          have hcells : RepL E cells vs.toList := ⟨by simp [hs], fun i z hz => by obtain ⟨u, hu, hh⟩ := hcl i z hz; exact ⟨u, by simpa using hu, hh⟩⟩
          have hsp := hcells.splice hl hc.2
          have hb : ∀ g', g' ≠ g → (w.setRow g (vs.toList.take off ++ vv.cells.toList ++ vs.toList.drop (off + vv.cells.toList.length)).toArray).heap[g']? = w.heap[g']? := fun g' hne => setRow_other w g g' _ hne
          refine ⟨undef, _, E, .inr ⟨?_, rfl⟩, .any _, .refl _ _, ?_, .touch (g := g) (by rw [hid]; rfl) (by rw [e1]; rfl) (by simp) hb⟩
          · simp [execOp, ho, hq, hu, Instr.storeAt, Instr.sureAddr, hrun]
          · refine hw.touch (g := g) (by rw [hid]; rfl) (by rw [e1]; rfl) hb ?_
            rw [e1]
            refine ⟨g, _, rfl, setRow_heap w g _ _ _ _ hg, by simpa using hsp.1.symm, fun j z hz => ?_, hI⟩
            obtain ⟨u, hu, hh⟩ := hsp.2 j z hz
            exact ⟨u, by simpa using hu, hh⟩
      · cases hr
    · cases hr
  · rename_i id sz i j cs hcs
    obtain ⟨hl, hone⟩ := cellsL_rep hv hcs
    split at hr
    · rename_i e' sz' rows ps hid hps
      split at hr
      · rename_i row hrow
        split at hr
        · rename_i hc
          obtain ⟨hc1, hc2, hc3⟩ := hc
          subst hc1
          injection hr with hr
          subst hr
          have hk := hw.ck id
          rw [hid] at hk
          obtain ⟨sv, e1, xs, hown, hlen, hxs, hones, hnone⟩ := hk
          obtain ⟨p1, p2⟩ := pvs_rep hl hps
          cases hx with
          | aptd q hd => rw [e1] at hd; cases hd
          | @apt _ _ _ _ n c g off hb =>
            rw [e1] at hb
            injection hb with hb
            subst hb
            rcases hown.2 with ⟨hh, _⟩ | ⟨g', cap, cur, he, -, hg, hn, hm, hcs', htake⟩
            · cases hh
            · injection he with he1 he2 he3
              injection he1 with he1
              injection he1 with he1 he4
              subst he1; subst he4; subst he3; subst he2
              have hrl := hlen row (List.mem_of_getElem? hrow)
              have hil : i < rows.length := (List.getElem?_eq_some_iff.1 hrow).1
              have hle : i * sz + sz ≤ rows.length * sz := by
                have := Nat.mul_le_mul_right sz (show i + 1 ≤ rows.length by omega)
                rw [Nat.add_mul] at this; omega
              have hle2 : rows.length * sz ≤ c * sz := Nat.mul_le_mul_right sz hn
              have hxl := hown.1
              have hlv : vv.cells.size = ps.length := by simpa using p1.symm
              have hrun := storeT (P := P) (w := w) ht (off := i * sz + j) (v := vv) hg (by rw [hlv]; exact hc2) (by rw [hlv, hcs']; omega) hone
              have hb : ∀ g', g' ≠ g → (w.setRow g (cur.toList.take (i * sz + j) ++ vv.cells.toList ++ cur.toList.drop (i * sz + j + vv.cells.toList.length)).toArray).heap[g']? = w.heap[g']? := fun g' hne => setRow_other w g g' _ hne
              refine ⟨undef, _, E, .inr ⟨?_, rfl⟩, .any _, .refl _ _, ?_, .touch (g := g) (by rw [hid]; rfl) (by rw [e1]; rfl) (by simp) hb⟩
              · simp [execOp, ho, hq, hu, Instr.storeAt, Instr.sureAddr, hrun]
              · refine hw.touch (g := g) (by rw [hid]; rfl) (by rw [e1]; rfl) hb ?_
                rw [e1]
                have hvl : vv.cells.toList.length = ps.length := by simpa using hlv
                have hxe : xs.length = rows.length * sz := hxl
                refine ⟨_, rfl, xs.take (i * sz + j) ++ vv.cells.toList ++ xs.drop (i * sz + j + vv.cells.toList.length), ⟨?_, .inr ⟨g, c, _, ?_, Nat.zero_le _, setRow_heap w g _ _ _ _ hg, ?_, hm, ?_, ?_⟩⟩, ?_, ?_, ?_, ?_⟩
                · simp only [List.length_append, List.length_take, List.length_drop, List.length_set, hvl]; omega
                · rw [List.length_set]
                · rw [List.length_set]; exact hn
                · simp only [List.size_toArray, List.length_append, List.length_take, List.length_drop, Array.length_toList, hvl, hcs']; omega
                · rw [List.length_set]
                  have e := take_splice cur.toList vv.cells.toList (rows.length * sz) (i * sz + j) (by rw [hvl]; omega) (by simp [hcs']; omega)
                  rw [htake] at e
                  simpa using e
                · intro r hr
                  rcases List.mem_or_eq_of_mem_set hr with hr | hr
                  · exact hlen r hr
                  · subst hr
                    simp only [List.length_append, List.length_take, List.length_drop]
                    omega
                · intro i' j' r x hr hx
                  by_cases hii : i' = i
                  · subst hii
                    rw [List.getElem?_set_self (by exact hil)] at hr
                    injection hr with hr
                    subst hr
                    have hj' : j' < sz := by
                      have := (List.getElem?_eq_some_iff.1 hx).1
                      simp only [List.length_append, List.length_take, List.length_drop] at this
                      omega
                    by_cases h1 : j' < j
                    · rw [List.append_assoc, List.getElem?_append_left (by simp; omega), List.getElem?_take_of_lt h1] at hx
                      obtain ⟨u, hu, hr⟩ := hxs i' j' row x hrow hx
                      exact ⟨u, by rw [List.append_assoc, List.getElem?_append_left (by simp; omega), List.getElem?_take_of_lt (by omega)]; exact hu, hr⟩
                    · by_cases h2 : j' < j + ps.length
                      · rw [List.append_assoc, List.getElem?_append_right (by simp; omega), List.length_take, Nat.min_eq_left (by omega), List.getElem?_append_left (by omega)] at hx
                        obtain ⟨u, hu, hr⟩ := p2 _ x hx
                        exact ⟨u, by rw [List.append_assoc, List.getElem?_append_right (by simp; omega), List.length_take, Nat.min_eq_left (by omega), List.getElem?_append_left (by omega)]; rw [← hu]; congr 1; omega, hr⟩
                      · rw [List.append_assoc, List.getElem?_append_right (by simp; omega), List.length_take, Nat.min_eq_left (by omega), List.getElem?_append_right (by omega), List.getElem?_drop] at hx
                        obtain ⟨u, hu, hr⟩ := hxs i' _ row x hrow hx
                        refine ⟨u, ?_, hr⟩
                        rw [List.append_assoc, List.getElem?_append_right (by simp; omega), List.length_take, Nat.min_eq_left (by omega), List.getElem?_append_right (by omega), List.getElem?_drop, hvl, ← hu]
                        congr 1
                        omega
                  · rw [List.getElem?_set_ne (Ne.symm hii)] at hr
                    obtain ⟨u, hu, hrr⟩ := hxs i' j' r x hr hx
                    have hrl' := hlen r (List.mem_of_getElem? hr)
                    have hj' : j' < sz := by have := (List.getElem?_eq_some_iff.1 hx).1; omega
                    refine ⟨u, ?_, hrr⟩
                    by_cases hlt : i' < i
                    · have hle' : i' * sz + sz ≤ i * sz := by
                        have := Nat.mul_le_mul_right sz (show i' + 1 ≤ i by omega)
                        rw [Nat.add_mul] at this; omega
                      rw [List.append_assoc, List.getElem?_append_left (by simp; omega), List.getElem?_take_of_lt (by omega)]
                      exact hu
                    · have hle' : i * sz + sz ≤ i' * sz := by
                        have := Nat.mul_le_mul_right sz (show i + 1 ≤ i' by omega)
                        rw [Nat.add_mul] at this; omega
                      rw [List.append_assoc, List.getElem?_append_right (by simp; omega), List.length_take, Nat.min_eq_left (by omega), List.getElem?_append_right (by omega), List.getElem?_drop, hvl, ← hu]
                      congr 1
                      omega
                · intro u hu
                  simp only [List.mem_append] at hu
                  rcases hu with (hu | hu) | hu
                  · exact hones u (List.mem_of_mem_take hu)
                  · exact Array.all_eq_true_iff_forall_mem.1 hone u (by simpa using hu)
                  · exact hones u (List.mem_of_mem_drop hu)
                · exact hnone
        · cases hr
      · cases hr
    · cases hr
  · cases hr
end

end Go.Ab

set_option linter.unusedVariables false
set_option linter.unusedSimpArgs false
namespace Go.Ab
open Go

/-! ### Struct and array literals -/

def placesT (P : Program) (t : TypeId) : Option (List (Nat × Nat)) :=
  match P.underlying t with
  | some (.struct fs) => fs.toList.mapM (fun f => (P.info? f.type).map fun i => (f.offset, i.size))
  | some (.array n e) => (P.info? e).map fun i => (List.range n).map fun k => (k * i.size, i.size)
  | _ => none

def afill (pl : List (Nat × Nat)) : List AV → List (Nat × AV) → Option (List AV)
  | cells, [] => some cells
  | cells, (i, x) :: rest => match pl[i]?, cellsL x with
    | some (off, size), some cs => if cs.length = size ∧ off + cs.length ≤ cells.length then afill pl (cells.take off ++ cs ++ cells.drop (off + cs.length)) rest else none
    | _, _ => none

theorem afill_rep {E : Env} {pl : List (Nat × Nat)} {place : Nat → Option (Nat × Nat)} (hpl : ∀ i p, pl[i]? = some p → place i = some p) :
    ∀ {parts : List (Nat × AV)} {vals : List (Nat × Value)} {cells cells' : List AV} {vs : Array Value}, RepL E cells vs.toList →
      (parts.length = vals.length ∧ ∀ (k : Nat) (q : Nat × AV), parts[k]? = some q → ∃ u, vals[k]? = some (q.1, u) ∧ Rep E q.2 u) →
      afill pl cells parts = some cells' → ∃ vs', Instr.fill place vs vals = some vs' ∧ RepL E cells' vs'.toList
  | [], vals, cells, cells', vs, hc, hv, hf => by
    injection hf with hf
    subst hf
    have : vals = [] := List.eq_nil_of_length_eq_zero (by have := hv.1; simp at this; omega)
    subst this
    exact ⟨vs, rfl, hc⟩
  | (i, x) :: parts, vals, cells, cells', vs, hc, hv, hf => by
    match vals, hv with
    | [], hv => have := hv.1; simp at this
    | q :: vals, hv =>
      obtain ⟨u, hu, hr⟩ := hv.2 0 (i, x) rfl
      simp at hu
      subst hu
      simp only [afill] at hf
      split at hf
      · rename_i off size cs e1 e2
        split at hf
        · rename_i hcond
          obtain ⟨hl, hone⟩ := cellsL_rep hr e2
          have hlen : u.cells.size = cs.length := by simpa using hl.1.symm
          have hcl : cells.length = vs.size := by simpa using hc.1
          have hsp := hc.splice hl hcond.2
          have hv' : parts.length = vals.length ∧ ∀ (k : Nat) (q : Nat × AV), parts[k]? = some q → ∃ u, vals[k]? = some (q.1, u) ∧ Rep E q.2 u :=
            ⟨by have := hv.1; simpa using this, fun k q hk => by obtain ⟨u', h1, h2⟩ := hv.2 (k + 1) q (by simpa using hk); exact ⟨u', by simpa using h1, h2⟩⟩
          obtain ⟨g1, g2⟩ := Great.foldl_set off u.cells.toList 0 vs
          have heq : (u.cells.zipIdx.foldl (fun cs (c, j) => cs.setIfInBounds (off + j) c) vs) = (vs.toList.take off ++ u.cells.toList ++ vs.toList.drop (off + u.cells.toList.length)).toArray := by
            have e3 : (u.cells.zipIdx.foldl (fun cs (c, j) => cs.setIfInBounds (off + j) c) vs) = ((u.cells.toList.zipIdx 0).foldl (fun cs (x : Value × Nat) => cs.setIfInBounds (off + x.2) x.1) vs) := by
              rw [← Array.foldl_toList, Array.toList_zipIdx]
            rw [e3]
            apply Array.ext_getElem?
            intro k
            rw [g2 k]
            have hle : off + u.cells.size ≤ vs.size := by rw [hlen]; omega
            simp only [Nat.add_zero, Array.length_toList, List.getElem?_toArray, List.getElem?_append, List.length_append, List.length_take, List.getElem?_take, List.getElem?_drop, Array.getElem?_toList]
            by_cases k1 : k < off
            · rw [if_neg (by omega), if_pos (by omega), if_pos (by omega), if_pos k1]
            · by_cases k2 : k < off + u.cells.size
              · rw [if_pos ⟨by omega, k2, by omega⟩, if_pos (by omega), if_neg (by omega), Nat.min_eq_left (by omega)]
              · rw [if_neg (by omega), if_neg (by omega), Nat.min_eq_left (by omega)]
                congr 1
                omega
          obtain ⟨vs', h1, h2⟩ := afill_rep hpl (vs := (vs.toList.take off ++ u.cells.toList ++ vs.toList.drop (off + u.cells.toList.length)).toArray) (by simpa using hsp) hv' hf
          refine ⟨vs', ?_, h2⟩
          rw [← h1, Instr.fill, hpl i _ e1]
          simp only [hlen, hcond.1]
          rw [if_neg (by simp; omega)]
          rw [heq]
        · cases hf
      · cases hf

theorem cst1_repL {E : Env} (vs : List Value) : RepL E (vs.map cst1) vs := by
  refine ⟨by simp, fun i x hx => ?_⟩
  simp only [List.getElem?_map] at hx
  cases hc : vs[i]? with
  | none => rw [hc] at hx; cases hx
  | some u => rw [hc] at hx; injection hx with hx; subst hx; exact ⟨u, rfl, Rep.cst1 u⟩

section
variable {P : Program} {nid : Nat} {E : Env} {h : AHeap} {w : World} {o : Oper} {a : Act} {env : AEnv}
variable (hw : WOK E h w) (henv : ∀ k, Rep E (env k) (a.tmps.getD k undef))
include hw henv

omit hw in
theorem parts_rep (parts : Array (Nat × Operand)) : (parts.toList.map fun q => (q.1, ev env q.2)).length = (parts.map fun (i, x) => (i, a.eval x)).toList.length ∧
    ∀ (k : Nat) (q : Nat × AV), (parts.toList.map fun q => (q.1, ev env q.2))[k]? = some q → ∃ u, (parts.map fun (i, x) => (i, a.eval x)).toList[k]? = some (q.1, u) ∧ Rep E q.2 u := by
  refine ⟨by simp, fun k q hk => ?_⟩
  simp only [List.getElem?_map] at hk
  cases hc : parts.toList[k]? with
  | none => rw [hc] at hk; cases hk
  | some z =>
    rw [hc] at hk
    injection hk with hk
    subst hk
    refine ⟨a.eval z.2, ?_, Rep.ev henv z.2⟩
    simp only [Array.toList_map, List.getElem?_map, hc, Option.map_some]

theorem sim_build {t : TypeId} {y : TyF} {pl : List (Nat × Nat)} {parts : Array (Nat × Operand)} {cells : List AV} (ho : o.op = .build t parts) (ht : tyf P t = some y) (hp : placesT P t = some pl)
    (hc : afill pl (y.zero.cells.toList.map cst1) (parts.toList.map fun q => (q.1, ev env q.2)) = some cells) : OpSim P nid E h w o a (.agg cells) h := by
  obtain ⟨d, i, hd, hi, hz, -, -, -⟩ := tyf_spec ht
  have hpr := parts_rep henv parts
  unfold placesT at hp
  rw [hd] at hp
  cases d <;> simp only [] at hp <;> try (cases hp; done)
  case array n e =>
    cases hie : P.info? e with
    | none => simp [hie] at hp
    | some ie =>
      simp only [hie, Option.map_some, Option.some.injEq] at hp
      obtain ⟨vs', h1, h2⟩ := afill_rep (E := E) (place := fun i => some (i * ie.size, ie.size)) (fun k p hk => by
        subst hp
        simp only [List.getElem?_map] at hk
        cases hr : (List.range n)[k]? with
        | none => rw [hr] at hk; cases hk
        | some z =>
          rw [hr] at hk
          injection hk with hk
          have : z = k := by
            have := (List.getElem?_eq_some_iff.1 hr).2
            simpa using this.symm
          subst this
          exact congrArg some hk) (cst1_repL _) hpr hc
      refine OpSim.pure hw (val := .agg vs') ?_ (RepL.agg h2)
      have := run_build (P := P) w t (parts.map fun (i, x) => (i, a.eval x)) vs' (by
        unfold Program.built
        rw [hi, hd]
        simp only [hz, hie]
        simpa using h1)
      simp [execOp, ho, this]
  case struct fs =>
    obtain ⟨vs', h1, h2⟩ := afill_rep (E := E) (place := (pl[·]?)) (fun k p hk => hk) (cst1_repL _) hpr hc
    refine OpSim.pure hw (val := .agg vs') ?_ (RepL.agg h2)
    have := run_build (P := P) w t (parts.map fun (i, x) => (i, a.eval x)) vs' (by
      unfold Program.built
      rw [hi, hd]
      simp only [hz]
      have hp' : fs.toList.mapM (fun f => (P.info? f.type).map fun i => (f.offset, i.size)) = some pl := by simpa using hp
      rw [hp']
      simpa using h1)
    simp [execOp, ho, this]

/-! ### Slice literals: a new array -/

def rowsOf (env : AEnv) : Nat → List (Nat × Operand) → Option (List (List PV))
  | _, [] => some []
  | k, (i, x) :: rest => if i = k then (match cellsL (ev env x) with
    | some cs => match pvs cs, rowsOf env (k + 1) rest with
      | some ps, some r => some (ps :: r)
      | _, _ => none
    | none => none) else none

omit hw in
theorem rowsOf_rep {sz : Nat} : ∀ {k : Nat} {parts : List (Nat × Operand)} {rows : List (List PV)}, rowsOf env k parts = some rows → (∀ r, r ∈ rows → r.length = sz) →
    rows.length = parts.length ∧ parts = ((parts.map (·.2)).zipIdx k).map (fun x => (x.2, x.1)) ∧ (∀ v, v ∈ parts.map (fun q => a.eval q.2) → v.cells.size = sz ∧ ∀ u, u ∈ v.cells → u.oneCell' = true) ∧
    ∀ (i j : Nat) (r : List PV) (x : PV), rows[i]? = some r → r[j]? = some x → ∃ v u, (parts.map (fun q => a.eval q.2))[i]? = some v ∧ v.cells[j]? = some u ∧ RepI E.I x u
  | k, [], rows, hr, hs => by
    injection hr with hr
    subst hr
    exact ⟨rfl, rfl, fun v hv => by simp at hv, fun i j r x hr => by simp at hr⟩
  | k, (i, x) :: rest, rows, hr, hs => by
    simp only [rowsOf] at hr
    split at hr
    · rename_i hik
      subst hik
      split at hr
      · rename_i cs hcs
        split at hr
        · rename_i ps r' e1 e2
          injection hr with hr
          subst hr
          obtain ⟨hl, hone⟩ := cellsL_rep (Rep.ev henv x) hcs
          obtain ⟨p1, p2⟩ := pvs_rep hl e1
          obtain ⟨q1, q2, q3, q4⟩ := rowsOf_rep e2 (fun r hr => hs r (by simp [hr]))
          have hps := hs ps (by simp)
          refine ⟨by simp [q1], by simp only [List.map_cons, List.zipIdx_cons]; rw [← q2], fun v hv => ?_, fun i' j r z h1 h2 => ?_⟩
          · simp only [List.map_cons, List.mem_cons] at hv
            rcases hv with hv | hv
            · subst hv
              exact ⟨by rw [← hps, p1]; simp, fun u hu => Array.all_eq_true_iff_forall_mem.1 hone u hu⟩
            · exact q3 v hv
          · cases i' with
            | zero =>
              simp at h1
              subst h1
              obtain ⟨u, hu, hh⟩ := p2 j z h2
              exact ⟨a.eval x, u, rfl, by simpa using hu, hh⟩
            | succ i' =>
              simp at h1
              obtain ⟨v, u, g1, g2, g3⟩ := q4 i' j r z h1 h2
              exact ⟨v, u, by simpa using g1, g2, g3⟩
        · cases hr
      · cases hr
    · cases hr

omit hw henv in
theorem eval_zip (a : Act) : ∀ (l : List Operand) (k : Nat), ((l.zipIdx k).map fun x => (x.2, x.1)).map (fun (i, x) => (i, a.eval x)) = ((l.map a.eval).zipIdx k).map fun x => (x.2, x.1)
  | [], k => rfl
  | x :: l, k => by
    simp only [List.zipIdx_cons, List.map_cons]
    rw [eval_zip a l (k + 1)]

omit henv in
/-- A new array of the call's own. -/
theorem sim_newArr {te : TypeId} {sz : Nat} {rows : List (List PV)} {cap : Nat} {vs : Array Value} (hu : E.ch nid = .unborn) (hsz : ∀ r, r ∈ rows → r.length = sz)
    (hlen : vs.size = cap * sz) (hcap : rows.length ≤ cap) (hmax : cap ≤ maxLen)
    (hrep : ∀ (i j : Nat) (r : List PV) (x : PV), rows[i]? = some r → r[j]? = some x → ∃ u, vs[i * sz + j]? = some u ∧ RepI E.I x u) (hone : ∀ u, u ∈ vs → u.oneCell' = true)
    (hrun : (execOp a.eval o).run P w = .ok (.value (.slice (some ⟨w.heap.size, 0, none⟩) rows.length cap)) (w.alloc (.cells vs te))) :
    OpSim P nid E h w o a (.ref nid rows.length) (upd h nid (some (.arr te sz rows))) := by
  let v : Value := .slice (some ⟨w.heap.size, 0, none⟩) rows.length cap
  have hle : ELe E { E with ch := upd E.ch nid (.sl v) } := (EStep.new E nid _).le hu
  have hs : w.heap.size ≤ (w.alloc (.cells vs te)).heap.size := by rw [alloc_size]; omega
  have hci : ∀ g, (ChI.sl v).block = some g → w.heap.size ≤ g := fun g e => by simp [ChI.block, v] at e; omega
  have hI : E.I w.heap.size = none := by
    cases hi : E.I w.heap.size with
    | none => rfl
    | some o => have := (Array.getElem?_eq_some_iff.1 (hw.imm _ _ hi)).1; omega
  have hle2 : rows.length * sz ≤ cap * sz := Nat.mul_le_mul_right sz hcap
  refine ⟨v, _, { E with ch := upd E.ch nid (.sl v) }, .inl hrun, .ref (upd_same _ _ _) (fun _ => ⟨_, _, rfl⟩), .new E nid _, ?_, .new hs (alloc_old w _) hci⟩
  refine hw.new hu hs (alloc_old w _) hci ⟨v, rfl, vs.toList.take (rows.length * sz), ⟨?_, .inr ⟨w.heap.size, cap, vs, rfl, Nat.zero_le _, alloc_new w _, hcap, hmax, hlen, rfl⟩⟩, hsz, fun i j r x h1 h2 => ?_, fun u hu => ?_, fun g hg => ?_⟩
  · simp; omega
  · obtain ⟨u, hu, hr⟩ := hrep i j r x h1 h2
    have hi : i < rows.length := (List.getElem?_eq_some_iff.1 h1).1
    have hj : j < sz := by have := (List.getElem?_eq_some_iff.1 h2).1; have := hsz r (List.mem_of_getElem? h1); omega
    have hlt : i * sz + sz ≤ rows.length * sz := by
      have := Nat.mul_le_mul_right sz (show i + 1 ≤ rows.length by omega)
      rw [Nat.add_mul] at this; omega
    exact ⟨u, by rw [List.getElem?_take_of_lt (by omega)]; simpa using hu, hr⟩
  · exact hone u (by simpa using List.mem_of_mem_take hu)
  · have : g = w.heap.size := by simpa [Value.ownBlock, v] using hg.symm
    subst this
    exact hI

theorem sim_buildSlice {t e : TypeId} {y : TyF} {len : Nat} {parts : Array (Nat × Operand)} {rows : List (List PV)} (hu : E.ch nid = .unborn) (ho : o.op = .buildSlice t len parts) (ht : slE P t = some e) (hy : tyf P e = some y)
    (hr : rowsOf env 0 parts.toList = some rows) (hsz : ∀ r, r ∈ rows → r.length = y.size) (hlen : len = rows.length) (hpos : len * y.size ≠ 0) (hsmall : len * y.size ≤ 2 ^ 24) :
    OpSim P nid E h w o a (.ref nid rows.length) (upd h nid (some (.arr e y.size rows))) := by
  obtain ⟨q1, q2, q3, q4⟩ := rowsOf_rep (a := a) (E := E) henv hr hsz
  obtain ⟨d, i, hd, hi, hz, hs1, -, -⟩ := tyf_spec hy
  have hpos' : 0 < y.size := Nat.pos_of_ne_zero (fun e => hpos (by rw [e, Nat.mul_zero]))
  subst hlen
  have hmk : (parts.map fun (i, x) => (i, a.eval x)).toList = ((parts.toList.map fun q => a.eval q.2).zipIdx 0).map fun x => (x.2, x.1) := by
    rw [Array.toList_map]
    conv => lhs; rw [q2]
    have : (parts.toList.map fun q => a.eval q.2) = (parts.toList.map (·.2)).map a.eval := by rw [List.map_map]; rfl
    rw [this]
    exact eval_zip a _ 0
  have hfill := Great.fill_whole hpos' (parts.toList.map fun q => a.eval q.2) ((Array.range (rows.length * y.size)).map (y.zero.cells[· % y.zero.cells.size]!)) (fun v hv => (q3 v hv).1) (by simp [q1])
  have hrun := run_buildSlice (P := P) w t e rows.length (parts.map fun (i, x) => (i, a.eval x)) _ i y.zero (slE_spec ht) hi hz (by rw [hs1]; omega) (by rw [hs1]; exact hpos) (by rw [hs1, hmk]; exact hfill)
  have hfl : ∀ k, ((parts.toList.map fun q => a.eval q.2).flatMap fun v => v.cells.toList)[k]? = _ := Great.flat_get hpos' _ (fun v hv => (q3 v hv).1)
  have hmax : rows.length ≤ maxLen := by
    have : rows.length ≤ rows.length * y.size := Nat.le_mul_of_pos_right _ hpos'
    unfold maxLen; omega
  refine sim_newArr hw hu hsz (cap := rows.length) ?_ (Nat.le_refl _) hmax ?_ ?_ (by unfold execOp; simp only [ho, Sem.run_bind]; rw [hrun]; rfl)
  · have hl : ∀ (l : List Value), (∀ v, v ∈ l → v.cells.size = y.size) → (l.flatMap fun v => v.cells.toList).length = l.length * y.size := by
      intro l
      induction l with
      | nil => intro _; simp
      | cons v l ih => intro hv; rw [List.flatMap_cons, List.length_append, ih (fun u hu => hv u (by simp [hu])), List.length_cons, Nat.add_mul]; have := hv v (by simp); simp; omega
    simpa [q1] using hl _ (fun v hv => (q3 v hv).1)
  · intro i' j r x h1 h2
    obtain ⟨v, u, g1, g2, g3⟩ := q4 i' j r x h1 h2
    have hj : j < y.size := by have := (List.getElem?_eq_some_iff.1 h2).1; have := hsz r (List.mem_of_getElem? h1); omega
    refine ⟨u, ?_, g3⟩
    have := hfl (i' * y.size + j)
    rw [show (i' * y.size + j) / y.size = i' by rw [Nat.add_comm, Nat.add_mul_div_right _ _ hpos', Nat.div_eq_of_lt hj, Nat.zero_add], show (i' * y.size + j) % y.size = j by rw [Nat.add_comm, Nat.add_mul_mod_self_right, Nat.mod_eq_of_lt hj], g1] at this
    simpa [g2] using this
  · intro u hu
    simp only [List.mem_toArray, List.mem_flatMap] at hu
    obtain ⟨v, hv, hu⟩ := hu
    exact (q3 v hv).2 u (by simpa using hu)
end

end Go.Ab

set_option linter.unusedVariables false
set_option linter.unusedSimpArgs false
namespace Go.Ab
open Go

/-- A bound of a slice expression. -/
inductive BndIs (env : AEnv) (d : Nat) : Option Operand → Nat → Prop
  | none : BndIs env d none d
  | some {x : Operand} {k : IntKind} {i : Int} (h : ev env x = .p (.sc (.int k i))) (h0 : 0 ≤ i) : BndIs env d (some x) i.toNat

theorem RepI.piece {I : Nat → Option Obj} {rows : List (List PV)} {A : Option Addr} {n c sz : Nat} (h : RepI I (.fro rows) (.slice A n c)) (hsz : ∀ r, r ∈ rows → r.length = sz) {l k : Nat} (hl : l ≤ k) (hk : k ≤ rows.length) :
    RepI I (.fro ((rows.drop l).take (k - l))) (.slice (if c = l then A else A.map (·.add (l * sz))) (k - l) (c - l)) := by
  cases h with
  | fro sz' rows A g off c vs hA hc hr hcell h1 hrep =>
    have hlen : ((rows.drop l).take (k - l)).length = k - l := by simp; omega
    have hmem : ∀ r, r ∈ (rows.drop l).take (k - l) → r ∈ rows := fun r hr => List.mem_of_mem_drop (List.mem_of_mem_take hr)
    have key := RepI.fro (I := I) sz ((rows.drop l).take (k - l)) (if c = l then A else A.map (·.add (l * sz))) g (off + l * sz) (c - l) (fun i j => vs (l + i) j)
      (fun hp => by
        rw [hlen] at hp
        rw [if_neg (by omega), hA (by omega)]
        simp [add_mk]) (by rw [hlen]; omega) (fun r hr => hsz r (hmem r hr))
      (fun i j hi hj => by
        rw [hlen] at hi
        have hs : sz' = sz := by
          have h0 : rows[0]? = some rows[0] := List.getElem?_eq_getElem (by omega)
          have := hr _ (List.mem_of_getElem? h0)
          have := hsz _ (List.mem_of_getElem? h0)
          omega
        subst hs
        have := hcell (l + i) j (by omega) hj
        rw [Nat.add_mul, ← Nat.add_assoc] at this
        exact this)
      (fun i j hi hj => by
        rw [hlen] at hi
        have hs : sz' = sz := by
          have h0 : rows[0]? = some rows[0] := List.getElem?_eq_getElem (by omega)
          have := hr _ (List.mem_of_getElem? h0)
          have := hsz _ (List.mem_of_getElem? h0)
          omega
        subst hs
        exact h1 (l + i) j (by omega) hj)
      (fun i j r x hi hj => by
        simp only [List.getElem?_take, List.getElem?_drop] at hi
        split at hi
        · exact hrep (l + i) j r x hi hj
        · cases hi)
    rw [hlen] at key
    exact key

section
variable {P : Program} {nid : Nat} {E : Env} {h : AHeap} {w : World} {o : Oper} {a : Act} {env : AEnv}
variable (hw : WOK E h w) (henv : ∀ k, Rep E (env k) (a.tmps.getD k undef))
include hw henv

omit hw in
theorem run_bounds {lo hi : Option Operand} {isS : Bool} {n cap l k : Nat} (hlo : BndIs env 0 lo l) (hhi : BndIs env n hi k) (hl : l ≤ k) (hk : k ≤ cap) :
    (Instr.sliceBounds isS n cap (lo.map a.eval) (hi.map a.eval) none).run P w = .ok (l, k, cap) w := by
  have e : ∀ {x : Operand} {kd : IntKind} {i : Int}, ev env x = .p (.sc (.int kd i)) → a.eval x = .int kd i := fun hx => by have := Rep.ev henv ‹_›; rw [hx] at this; exact this.sc_inv
  cases hhi with
  | none =>
    cases hlo with
    | none => simp [Instr.sliceBounds]
    | some h2 h3 =>
      rename_i x2 k2 i2
      have hc2 : 0 ≤ i2 ∧ i2 ≤ (n : Int) := ⟨h3, by omega⟩
      simp [Instr.sliceBounds, e h2, Instr.sliceBound, asIntOf, hc2]
  | some h2 h3 =>
    rename_i x2 k2 i2
    have hc2 : 0 ≤ i2 ∧ i2 ≤ (cap : Int) := ⟨h3, by omega⟩
    cases hlo with
    | none => simp [Instr.sliceBounds, e h2, Instr.sliceBound, asIntOf, hc2]
    | some h4 h5 =>
      rename_i x3 k3 i3
      have hc3 : 0 ≤ i3 ∧ i3 ≤ (i2.toNat : Int) := ⟨h5, by omega⟩
      simp only [Instr.sliceBounds, Option.map_some, e h2, e h4, Instr.sliceBound, asIntOf, Sem.run_bind, Sem.run_pure, Result.andThen_ok, hc2, hc3, and_self, if_true, Option.isSome_none]

theorem sim_slice_fro {t e : TypeId} {y : TyF} {x : Operand} {lo hi : Option Operand} {rows : List (List PV)} {l k : Nat} (ho : o.op = .slice t x lo hi none) (ht : slE P t = some e) (hy : tyf P e = some y)
    (hx : ev env x = .p (.fro rows)) (hlo : BndIs env 0 lo l) (hhi : BndIs env rows.length hi k) (hl : l ≤ k) (hk : k ≤ rows.length) (hsz : ∀ r, r ∈ rows → r.length = y.size) :
    OpSim P nid E h w o a (.p (.fro ((rows.drop l).take (k - l)))) h := by
  have hr := Rep.ev henv x
  rw [hx] at hr
  obtain ⟨A, c, e1, hc, hI⟩ := hr.fro_inv
  refine OpSim.pure hw (val := .slice (if c = l then A else A.map (·.add (l * y.size))) (k - l) (c - l)) ?_ (.p (hI.piece hsz hl hk))
  have hb := run_bounds (P := P) (w := w) (a := a) henv (isS := true) (cap := c) hlo hhi hl (Nat.le_trans hk hc)
  have hs := run_sizeT hy w
  simp [execOp, ho, e1, Instr.sliceAt, Instr.slice, run_underlying (slE_spec ht), hb, hs]

def strT (P : Program) (t : TypeId) : Bool :=
  match P.underlying t with
  | some .string => true
  | _ => false

theorem sim_slice_str {t : TypeId} {x : Operand} {lo hi : Option Operand} {s : ByteArray} {l k : Nat} (ho : o.op = .slice t x lo hi none) (ht : strT P t = true)
    (hx : ev env x = .p (.sc (.string s))) (hlo : BndIs env 0 lo l) (hhi : BndIs env s.size hi k) (hl : l ≤ k) (hk : k ≤ s.size) :
    OpSim P nid E h w o a (.p (.sc (.string (s.extract l k)))) h := by
  have e1 : a.eval x = .string s := by have := Rep.ev henv x; rw [hx] at this; exact this.sc_inv
  refine OpSim.pure hw (val := .string (s.extract l k)) ?_ (.p (.sc _))
  have hb := run_bounds (P := P) (w := w) (a := a) henv (isS := false) (cap := s.size) hlo hhi hl hk
  unfold strT at ht
  split at ht
  · rename_i hu
    simp [execOp, ho, e1, Instr.sliceAt, Instr.slice, run_underlying hu, hb]
  · cases ht

/-- make([]T, n). -/
theorem sim_makeSlice {t e : TypeId} {y : TyF} {x x' : Operand} {kd kd' : IntKind} {n : Int} {zs : List PV} (hu : E.ch nid = .unborn) (ho : o.op = .makeSlice t x x') (ht : slE P t = some e) (hy : tyf P e = some y)
    (hx : ev env x = .p (.sc (.int kd n))) (hx' : ev env x' = .p (.sc (.int kd' n))) (h0 : 0 ≤ n) (hb : y.bytes * n.toNat ≤ 281474976710656) (hm : n.toNat ≤ maxLen) (hz : pvs (y.zero.cells.toList.map cst1) = some zs) (hzs : y.zero.cells.size = y.size)
    (hone : y.zero.cells.all (·.oneCell') = true) :
    OpSim P nid E h w o a (.ref nid n.toNat) (upd h nid (some (.arr e y.size (List.replicate n.toNat zs)))) := by
  have e1 : a.eval x = .int kd n := by have := Rep.ev henv x; rw [hx] at this; exact this.sc_inv
  have e2 : a.eval x' = .int kd' n := by have := Rep.ev henv x'; rw [hx'] at this; exact this.sc_inv
  obtain ⟨d, i, hd, hi, hzz, hs1, hs2, -⟩ := tyf_spec hy
  have hm' : n ≤ 9223372036854775807 := by unfold maxLen at hm; omega
  have hq : ((y.bytes * n.toNat : Nat) : Int) ≤ 281474976710656 := by omega
  rw [Int.natCast_mul, Int.toNat_of_nonneg h0, ← hs2] at hq
  have hrun := run_make (P := P) w t e i y.zero (slE_spec ht) hi hzz kd kd' n n h0 (Int.le_refl _) hq hm'
  obtain ⟨p1, p2⟩ := pvs_rep (E := E) (cst1_repL y.zero.cells.toList) hz
  have hzl : zs.length = y.size := by rw [p1]; simpa using hzs
  have key := sim_newArr (P := P) (o := o) (a := a) (te := e) (sz := y.size) (rows := List.replicate n.toNat zs) (cap := n.toNat) (vs := madeCells y.zero.cells (n.toNat * i.size)) hw hu (fun r hr => by rw [List.eq_of_mem_replicate hr]; exact hzl)
    (by rw [hs1]; simp [madeCells]) (by simp) hm ?_ ?_ ?_
  · simpa using key
  · intro i' j r x h1 h2
    have hi' : i' < n.toNat := by have := (List.getElem?_eq_some_iff.1 h1).1; simpa using this
    have hr : r = zs := by simpa [List.getElem?_replicate, hi'] using h1.symm
    subst hr
    obtain ⟨u, hu, hr⟩ := p2 j x h2
    have hj : j < y.size := by have := (List.getElem?_eq_some_iff.1 h2).1; omega
    have hlt : i' * y.size + y.size ≤ n.toNat * y.size := by
      have := Nat.mul_le_mul_right y.size (show i' + 1 ≤ n.toNat by omega)
      rw [Nat.add_mul] at this; omega
    refine ⟨u, ?_, hr⟩
    have hmod : (i' * y.size + j) % y.size = j := by rw [Nat.add_comm, Nat.add_mul_mod_self_right, Nat.mod_eq_of_lt hj]
    have hidx : i' * y.size + j < n.toNat * i.size := by rw [hs1]; omega
    have huu : y.zero.cells[j]? = some u := by simpa using hu
    have hlt : j < y.zero.cells.size := by omega
    simp [madeCells, hidx, hzs, hmod, hlt]
    simpa [hlt] using huu
  · intro u hu
    simp only [madeCells, Array.mem_map] at hu
    obtain ⟨k, hk, e⟩ := hu
    have hk' : k < n.toNat * i.size := by simpa using hk
    have hpos : 0 < y.size := by
      rcases Nat.eq_zero_or_pos y.size with h | h
      · rw [hs1, h] at hk'; omega
      · exact h
    have hlt : k % y.zero.cells.size < y.zero.cells.size := by rw [hzs]; exact Nat.mod_lt _ hpos
    subst e
    rw [getElem!_pos y.zero.cells _ hlt]
    exact Array.all_eq_true_iff_forall_mem.1 hone _ (Array.getElem_mem hlt)
  · simp only [List.length_replicate]
    unfold execOp
    simp only [ho, Sem.run_bind, e1, e2]
    rw [hrun]
    rfl
end

/-! ### append -/

/-- What is appended: its rows. -/
def srcRows (h : AHeap) : AV → Option (List (List PV))
  | .nil => some []
  | .p (.fro rows) => some rows
  | .ref id n => match h id with
    | some (.arr _ _ rows) => if rows.length = n then some rows else none
    | some (.fz rows) => if rows.length = n then some rows else none
    | _ => none
  | _ => none

theorem srcRows_rep {E : Env} {h : AHeap} {w : World} (hw : WOK E h w) {x : AV} {v : Value} {rows : List (List PV)} {sz : Nat} (hx : Rep E x v) (hr : srcRows h x = some rows) (hsz : ∀ r, r ∈ rows → r.length = sz) :
    ∃ A c, v = .slice A rows.length c ∧ ∃ news : List Value, news.length = rows.length * sz ∧ (∀ u, u ∈ news → u.oneCell' = true) ∧
      (∀ ad, A = some ad → ∀ j u, news[j]? = some u → w.cell? (ad.add j) = some u) ∧ (A = none → rows.length = 0) ∧
      ∀ (i j : Nat) (r : List PV) (x : PV), rows[i]? = some r → r[j]? = some x → ∃ u, news[i * sz + j]? = some u ∧ RepI E.I x u := by
  have nilcase : ∀ (A : Option Addr) (c : Nat), rows = [] → v = .slice A rows.length c → ∃ A c, v = .slice A rows.length c ∧ ∃ news : List Value, news.length = rows.length * sz ∧ (∀ u, u ∈ news → u.oneCell' = true) ∧
      (∀ ad, A = some ad → ∀ j u, news[j]? = some u → w.cell? (ad.add j) = some u) ∧ (A = none → rows.length = 0) ∧
      ∀ (i j : Nat) (r : List PV) (x : PV), rows[i]? = some r → r[j]? = some x → ∃ u, news[i * sz + j]? = some u ∧ RepI E.I x u := by
    intro A c e e2
    subst e
    exact ⟨A, c, e2, [], by simp, fun u hu => by simp at hu, fun ad _ j u hu => by simp at hu, fun _ => rfl, fun i j r x h => by simp at h⟩
  have fro : ∀ (A : Option Addr) (c : Nat), v = .slice A rows.length c → RepI E.I (.fro rows) (.slice A rows.length c) → ∃ A c, v = .slice A rows.length c ∧ ∃ news : List Value, news.length = rows.length * sz ∧ (∀ u, u ∈ news → u.oneCell' = true) ∧
      (∀ ad, A = some ad → ∀ j u, news[j]? = some u → w.cell? (ad.add j) = some u) ∧ (A = none → rows.length = 0) ∧
      ∀ (i j : Nat) (r : List PV) (x : PV), rows[i]? = some r → r[j]? = some x → ∃ u, news[i * sz + j]? = some u ∧ RepI E.I x u := by
    intro A c e hI
    cases hI with
    | fro sz' rows A g off c vs hA hc hr hcell h1 hrep =>
      rcases Nat.eq_zero_or_pos rows.length with h0 | h0
      · exact nilcase A c (List.eq_nil_of_length_eq_zero h0) e
      · have hs : sz' = sz := by
          have h0 : rows[0]? = some rows[0] := List.getElem?_eq_getElem h0
          have := hr _ (List.mem_of_getElem? h0)
          have := hsz _ (List.mem_of_getElem? h0)
          omega
        subst hs
        have hdm : ∀ j, j < rows.length * sz' → j / sz' < rows.length ∧ j % sz' < sz' := by
          intro j hj
          have hp : 0 < sz' := by
            rcases Nat.eq_zero_or_pos sz' with h | h
            · rw [h] at hj; omega
            · exact h
          exact ⟨(Nat.div_lt_iff_lt_mul hp).2 hj, Nat.mod_lt _ hp⟩
        refine ⟨A, c, e, (List.range (rows.length * sz')).map fun j => vs (j / sz') (j % sz'), by simp, fun u hu => ?_, fun ad had j u hu => ?_, fun hn => ?_, fun i j r x h2 h3 => ?_⟩
        · simp only [List.mem_map, List.mem_range] at hu
          obtain ⟨j, hj, rfl⟩ := hu
          exact h1 _ _ (hdm j hj).1 (hdm j hj).2
        · have hj : j < rows.length * sz' := by have := (List.getElem?_eq_some_iff.1 hu).1; simpa using this
          simp [hj] at hu
          subst hu
          have := hA h0
          rw [had] at this
          injection this with this
          subst this
          rw [add_mk]
          have := icell_cell (w := w) hw.imm (hcell (j / sz') (j % sz') (hdm j hj).1 (hdm j hj).2)
          rw [Nat.add_assoc, Nat.mul_comm, Nat.div_add_mod] at this
          exact this
        · rw [hA h0] at hn; cases hn
        · have hi : i < rows.length := (List.getElem?_eq_some_iff.1 h2).1
          have hj : j < sz' := by have := (List.getElem?_eq_some_iff.1 h3).1; have := hr r (List.mem_of_getElem? h2); omega
          have hlt : i * sz' + sz' ≤ rows.length * sz' := by
            have := Nat.mul_le_mul_right sz' (show i + 1 ≤ rows.length by omega)
            rw [Nat.add_mul] at this; omega
          refine ⟨vs i j, ?_, hrep i j r x h2 h3⟩
          have e1 : (i * sz' + j) / sz' = i := by rw [Nat.add_comm, Nat.add_mul_div_right _ _ (by omega), Nat.div_eq_of_lt hj, Nat.zero_add]
          have e2 : (i * sz' + j) % sz' = j := by rw [Nat.add_comm, Nat.add_mul_mod_self_right, Nat.mod_eq_of_lt hj]
          simp [show i * sz' + j < rows.length * sz' by omega, e1, e2]
  unfold srcRows at hr
  split at hr
  · injection hr with hr; subst hr; cases hx; exact nilcase none 0 rfl rfl
  · injection hr with hr; subst hr
    obtain ⟨A, c, e1, -, hI⟩ := hx.fro_inv
    exact fro A c e1 hI
  · rename_i id n
    obtain ⟨A, c, e1, hA, hd⟩ := hx.ref_inv
    have hk := hw.ck id
    split at hr
    · rename_i te sz' rows' hid
      split at hr
      · rename_i hn
        injection hr with hr
        subst hr
        subst hn
        rw [hid] at hk
        obtain ⟨sv, e2, xs, hown, hlen, hxs, hones, hnone⟩ := hk
        have hch : E.ch id = .sl (.slice A rows'.length c) := by
          rcases hd with hd | hd
          · exact hd
          · rw [hd] at e2; cases e2
        rw [hch] at e2
        injection e2 with e2
        subst e2
        rcases Nat.eq_zero_or_pos rows'.length with h0 | h0
        · exact nilcase A c (List.eq_nil_of_length_eq_zero h0) e1
        · have hs : sz' = sz := by
            have h0 : rows'[0]? = some rows'[0] := List.getElem?_eq_getElem h0
            have := hlen _ (List.mem_of_getElem? h0)
            have := hsz _ (List.mem_of_getElem? h0)
            omega
          subst hs
          refine ⟨A, c, e1, xs, hown.1, hones, fun ad had j u hu => ?_, fun hn => ?_, hxs⟩
          · obtain ⟨g, off, hh⟩ := hA h0
            rw [hh] at had
            injection had with had
            subst had
            subst hh
            have hoff : off = 0 := by
              rcases hown.2 with ⟨hh, _⟩ | ⟨g', cap, cur, he, _⟩
              · cases hh
              · injection he with he1; injection he1 with he1; injection he1
            subst hoff
            exact hown.cells (g := g) rfl j u hu
          · obtain ⟨g, off, hh⟩ := hA h0
            rw [hh] at hn; cases hn
      · cases hr
    · rename_i rows' hid
      split at hr
      · rename_i hn
        injection hr with hr
        subst hr
        subst hn
        rw [hid] at hk
        obtain ⟨sv, e2, hI⟩ := hk
        have hch : E.ch id = .sl (.slice A rows'.length c) := by
          rcases hd with hd | hd
          · exact hd
          · rw [hd] at e2; cases e2
        rw [hch] at e2
        injection e2 with e2
        subst e2
        exact fro A c e1 hI
      · cases hr
    · cases hr
  · cases hr

section
variable {P : Program} {nid : Nat} {E : Env} {h : AHeap} {w : World} {o : Oper} {a : Act} {env : AEnv}

/-- The elder array is given up: the new one is a chunk of its own. -/
theorem sim_appended {te : TypeId} {sz : Nat} {rows : List (List PV)} {id : Nat} {v v' : Value} {w' : World} (hw : WOK E h w) (hu : E.ch nid = .unborn)
    (hold : (h id = none ∧ v.ownBlock = none ∧ E.ch id = .dead) ∨ (Ck.owned (h id) = true ∧ E.ch id = .sl v)) (hne : id ≠ nid)
    (harr : ArrOK { E with ch := upd (upd E.ch id .dead) nid (.sl v') } w' te sz rows v') (hgr : w.grownBy w' v.ownBlock) (hat : v'.ownBlock = v.ownBlock ∨ v'.ownBlock = some w.heap.size)
    (hform : ∃ A c, v' = .slice A rows.length c ∧ (0 < rows.length → ∃ g off, A = some ⟨g, off, none⟩))
    (hrun : (execOp a.eval o).run P w = .ok (.value v') w') :
    OpSim P nid E h w o a (.ref nid rows.length) (upd (upd h id none) nid (some (.arr te sz rows))) := by
  have hch : E.ch id ≠ .unborn := by rcases hold with ⟨_, _, e⟩ | ⟨_, e⟩ <;> rw [e] <;> intro h <;> cases h
  have hst : EStep nid E { E with ch := upd (upd E.ch id .dead) nid (.sl v') } := ⟨.refl _, fun i hi => by
    show upd (upd E.ch id .dead) nid (.sl v') i = _ ∨ _
    rw [upd_other _ _ hi]
    by_cases e : i = id
    · subst e; right
      refine ⟨?_, hch⟩
      show upd (upd E.ch i .dead) nid (.sl v') i = _
      rw [upd_other _ _ hi, upd_same]
    · left; rw [upd_other _ _ e]⟩
  have hle := hst.le hu
  have hb : ∀ g, g < w.heap.size → v.ownBlock ≠ some g → w'.heap[g]? = w.heap[g]? := fun g hg hn => hgr.block g hg (Ne.symm hn)
  have hvb : ∀ g, v.ownBlock = some g → own E h g ∧ E.I g = none := by
    intro g hg
    rcases hold with ⟨_, e, _⟩ | ⟨e1, e2⟩
    · rw [e] at hg; cases hg
    · have hb : (E.ch id).block = some g := by rw [e2, ← ownBlock_eq]; exact hg
      exact ⟨⟨id, e1, hb⟩, (hw.ck id).immNone e1 hb⟩
  have hother : ∀ i g, i ≠ id → Ck.owned (h i) = true → (E.ch i).block = some g → v.ownBlock ≠ some g := by
    intro i g hi ho hg hv
    rcases hold with ⟨_, e, _⟩ | ⟨e1, e2⟩
    · rw [e] at hv; cases hv
    · exact hw.dist i id g hi ho e1 hg (by rw [e2, ← ownBlock_eq]; exact hv)
  obtain ⟨A, c, he, hA⟩ := hform
  have hrep : ∀ E2 : Env, E2.ch nid = .sl v' → Rep E2 (.ref nid rows.length) v' := by
    intro E2 h2
    rw [he] at h2 ⊢
    exact .ref h2 hA
  refine ⟨v', w', _, .inl hrun, ?_, hst, ⟨fun g ob e => ?_, fun i => ?_, fun i j g hij h1 h2 e1 => ?_⟩, ⟨hgr.size, fun g hg hn => hb g hg (fun e => hn (hvb g e).1), fun _ _ e => .inl e, fun g e => ?_, hgr.os, hgr.output⟩⟩
  · exact hrep _ (upd_same _ _ _)
  · have := hw.imm g ob e
    rw [hb g (Array.getElem?_eq_some_iff.1 this).1 (fun e2 => by rw [(hvb g e2).2] at e; cases e)]
    exact this
  · show CkOK _ w' (upd (upd E.ch id .dead) nid (.sl v') i) _
    by_cases e1 : i = nid
    · subst e1
      rw [upd_same, upd_same]
      exact ⟨v', rfl, harr⟩
    · rw [upd_other _ _ e1, upd_other _ _ e1]
      by_cases e2 : i = id
      · subst e2; rw [upd_same, upd_same]; trivial
      · rw [upd_other _ _ e2, upd_other _ _ e2]
        exact (hw.ck i).keep hle (fun h1 g e3 => hb g ((hw.ck i).there h1 e3) (hother i g e2 h1 e3)) (fun h1 g e3 => (hw.ck i).immNone h1 e3)
  · replace e1 : (upd (upd E.ch id .dead) nid (.sl v') i).block = some g := e1
    show (upd (upd E.ch id .dead) nid (.sl v') j).block ≠ some g
    have aux : ∀ k g', k ≠ nid → Ck.owned (upd (upd h id none) nid (some (.arr te sz rows)) k) = true → (upd (upd E.ch id .dead) nid (.sl v') k).block = some g' → k ≠ id ∧ Ck.owned (h k) = true ∧ (E.ch k).block = some g' := by
      intro k g' hk ho hg
      rw [upd_other _ _ hk] at ho hg
      by_cases e : k = id
      · subst e; rw [upd_same] at ho; cases ho
      · rw [upd_other _ _ e] at ho hg; exact ⟨e, ho, hg⟩
    have new : ∀ k g', k ≠ nid → Ck.owned (upd (upd h id none) nid (some (.arr te sz rows)) k) = true → (upd (upd E.ch id .dead) nid (.sl v') k).block = some g' → v'.ownBlock ≠ some g' := by
      intro k g' hk ho hg hv
      obtain ⟨q1, q2, q3⟩ := aux k g' hk ho hg
      rcases hat with e | e
      · rw [e] at hv; exact hother k g' q1 q2 q3 hv
      · rw [e] at hv
        injection hv with hv
        have := (hw.ck k).there q2 q3
        omega
    by_cases ei : i = nid
    · subst ei
      rw [upd_same, ← ownBlock_eq] at e1
      intro e2
      exact new j g (Ne.symm hij) h2 e2 e1
    · by_cases ej : j = nid
      · subst ej
        rw [upd_same, ← ownBlock_eq]
        exact new i g ei h1 e1
      · intro e2
        obtain ⟨q1, q2, q3⟩ := aux i g ei h1 e1
        obtain ⟨r1, r2, r3⟩ := aux j g ej h2 e2
        exact hw.dist i j g hij q2 r2 q3 r3
  · obtain ⟨i, h1, h2⟩ := e
    replace h2 : (upd (upd E.ch id .dead) nid (.sl v') i).block = some g := h2
    by_cases ei : i = nid
    · subst ei
      rw [upd_same, ← ownBlock_eq] at h2
      rcases hat with e | e
      · rw [e] at h2; exact .inr (hvb g h2).1
      · rw [e] at h2; injection h2 with h2; omega
    · rw [upd_other _ _ ei] at h1 h2
      by_cases e2 : i = id
      · subst e2; rw [upd_same] at h1; cases h1
      · rw [upd_other _ _ e2] at h1 h2; exact .inr ⟨i, h1, h2⟩

theorem append_rows {E' : Env} {rows rows2 : List (List PV)} {xs news : List Value} {sz : Nat} (hI : ILe E.I E'.I) (hxl : xs.length = rows.length * sz) (hs : ∀ r, r ∈ rows → r.length = sz) (hs2 : ∀ r, r ∈ rows2 → r.length = sz)
    (hx : ∀ (i j : Nat) (r : List PV) (x : PV), rows[i]? = some r → r[j]? = some x → ∃ u, xs[i * sz + j]? = some u ∧ RepI E.I x u)
    (hn : ∀ (i j : Nat) (r : List PV) (x : PV), rows2[i]? = some r → r[j]? = some x → ∃ u, news[i * sz + j]? = some u ∧ RepI E.I x u) :
    ∀ (i j : Nat) (r : List PV) (x : PV), (rows ++ rows2)[i]? = some r → r[j]? = some x → ∃ u, (xs ++ news)[i * sz + j]? = some u ∧ RepI E'.I x u := by
  intro i j r x h1 h2
  by_cases hi : i < rows.length
  · rw [List.getElem?_append_left hi] at h1
    obtain ⟨u, hu, hr⟩ := hx i j r x h1 h2
    exact ⟨u, by rw [List.getElem?_append_left (List.getElem?_eq_some_iff.1 hu).1]; exact hu, hr.mono hI⟩
  · rw [List.getElem?_append_right (by omega)] at h1
    obtain ⟨u, hu, hr⟩ := hn _ j r x h1 h2
    have hle : rows.length * sz ≤ i * sz := Nat.mul_le_mul_right sz (by omega)
    refine ⟨u, ?_, hr.mono hI⟩
    rw [List.getElem?_append_right (by omega), hxl, ← hu]
    congr 1
    rw [Nat.sub_mul]
    omega

theorem sim_append {t e : TypeId} {y : TyF} {s x : Operand} {id n : Nat} {rows rows2 : List (List PV)} (hw : WOK E h w) (henv : ∀ k, Rep E (env k) (a.tmps.getD k undef)) (hu : E.ch nid = .unborn)
    (ho : o.op = .call { callee := .builtin .append, args := #[s, x], argTypes := #[t, t] }) (ht : slE P t = some e) (hy : tyf P e = some y) (hzs : y.zero.cells.size = y.size) (hpos : 0 < y.size)
    (hs : ev env s = .ref id n) (hid : h id = some (.arr e y.size rows)) (hn : rows.length = n)
    (hx : srcRows h (ev env x) = some rows2) (hsz2 : ∀ r, r ∈ rows2 → r.length = y.size) (hm : (n + rows2.length) * y.bytes ≤ 140737488355328) (hm2 : n + rows2.length ≤ maxLen) :
    OpSim P nid E h w o a (.ref nid (n + rows2.length)) (upd (upd h id none) nid (some (.arr e y.size (rows ++ rows2)))) := by
  subst hn
  obtain ⟨d, i, hd, hi, hz, hs1, hb1, -⟩ := tyf_spec hy
  have hne : id ≠ nid := fun e => by subst e; have := hw.ck id; rw [hid] at this; exact this.born hu
  have hk := hw.ck id
  rw [hid] at hk
  obtain ⟨sv, e1, xs, hown, hlen, hxs, hones, hnone⟩ := hk
  have hv := Rep.ev henv s
  rw [hs] at hv
  obtain ⟨A0, c0, ea, hA0, hd0⟩ := hv.ref_inv
  have esv : a.eval s = sv := by
    rcases hd0 with hh | hh
    · rw [e1] at hh; injection hh with hh; rw [ea, hh]
    · rw [e1] at hh; cases hh
  obtain ⟨A, c, eb, news, hnl, hn1, hnc, hnz, hnr⟩ := srcRows_rep hw (Rep.ev henv x) hx hsz2
  have hform : ∀ {w' : World} {v' : Value} {ys : List Value}, w'.ownsRow 0 e y.size v' (rows.length + rows2.length) ys → ∃ A c, v' = .slice A (rows ++ rows2).length c ∧ (0 < (rows ++ rows2).length → ∃ g off, A = some ⟨g, off, none⟩) := by
    intro w' v' ys hh
    rcases hh.2 with ⟨rfl, h0⟩ | ⟨g, cap, cur, rfl, _⟩
    · exact ⟨none, 0, by rw [List.length_append, h0], fun hp => by rw [List.length_append] at hp; omega⟩
    · exact ⟨_, cap, by rw [List.length_append], fun _ => ⟨g, 0, rfl⟩⟩
  have fin : ∀ (v' : Value) (w' : World), (Builtin.append_ #[t, t] o.type #[sv, .slice A rows2.length c]).run P w = .ok v' w' → w'.ownsRow 0 e y.size v' (rows.length + rows2.length) (xs ++ news) → w.grownBy w' sv.ownBlock →
      (v'.ownBlock = sv.ownBlock ∨ v'.ownBlock = some w.heap.size) → OpSim P nid E h w o a (.ref nid (rows.length + rows2.length)) (upd (upd h id none) nid (some (.arr e y.size (rows ++ rows2)))) := by
    intro v' w' hr h2 h3 h4
    rw [← List.length_append]
    refine sim_appended hw hu (.inr ⟨by rw [hid]; rfl, e1⟩) hne ?_ h3 h4 (hform h2) ?_
    · refine ⟨xs ++ news, by rw [List.length_append]; exact h2, fun r hr => ?_, append_rows (.refl _) hown.1 hlen hsz2 hxs hnr, fun u hu => ?_, fun g hg => ?_⟩
      · rcases List.mem_append.1 hr with hr | hr
        · exact hlen r hr
        · exact hsz2 r hr
      · rcases List.mem_append.1 hu with hu | hu
        · exact hones u hu
        · exact hn1 u hu
      · rcases h4 with e4 | e4
        · exact hnone g (by rw [← e4]; exact hg)
        · rw [e4] at hg
          injection hg with hg
          subst hg
          show E.I w.heap.size = none
          cases hi : E.I w.heap.size with
          | none => rfl
          | some ob => have := (Array.getElem?_eq_some_iff.1 (hw.imm _ _ hi)).1; omega
    · unfold execOp
      simp only [ho, resolve, invoke, builtin, Sem.run_bind, Sem.run_pure, Result.andThen_ok, List.map_toArray, List.map_cons, List.map_nil, esv, eb]
      rw [hr]
      rfl
  cases A with
  | none =>
    have h0 := hnz rfl
    have hr0 : rows2 = [] := List.eq_nil_of_length_eq_zero h0
    subst hr0
    have hnn : news = [] := List.eq_nil_of_length_eq_zero (by simpa using hnl)
    subst hnn
    have hr : (Builtin.append_ #[t, t] o.type #[sv, .slice none 0 c]).run P w = .ok sv w := by
      rcases hown.2 with ⟨rfl, hx0⟩ | ⟨g, cap, cur, rfl, _, _, hnc, _⟩
      · simp [Builtin.append_, run_underlying (slE_spec ht), sizeOf, typeInfo, hi, Builtin.lenOf, Builtin.firstCells]
      · simp [Builtin.append_, run_underlying (slE_spec ht), sizeOf, typeInfo, hi, Builtin.lenOf, Builtin.firstCells, hnc, storeCells]
    exact fin sv w hr (by simpa using hown) (World.grownBy.refl w _) (.inl rfl)
  | some ad =>
    obtain ⟨v', w', hr, h2, h3, -, h5⟩ := run_append_own_at (P := P) (w := w) 0 t o.type e i y.zero y.size y.bytes (slE_spec ht) hi hz hs1 hb1 hzs hpos sv rows.length xs hown ad rows2.length c news hnl (hnc ad rfl) hn1 hm2 hm (Nat.zero_le _)
    exact fin v' w' hr h2 h3 h5

theorem sim_append_nil {t e : TypeId} {y : TyF} {s x : Operand} {rows2 : List (List PV)} (hw : WOK E h w) (henv : ∀ k, Rep E (env k) (a.tmps.getD k undef)) (hu : E.ch nid = .unborn)
    (ho : o.op = .call { callee := .builtin .append, args := #[s, x], argTypes := #[t, t] }) (ht : slE P t = some e) (hy : tyf P e = some y) (hzs : y.zero.cells.size = y.size) (hpos : 0 < y.size)
    (hs : ev env s = .nil)
    (hx : srcRows h (ev env x) = some rows2) (hsz2 : ∀ r, r ∈ rows2 → r.length = y.size) (hm : rows2.length * y.bytes ≤ 140737488355328) (hm2 : rows2.length ≤ maxLen) :
    OpSim P nid E h w o a (.ref nid rows2.length) (upd h nid (some (.arr e y.size rows2))) := by
  obtain ⟨d, i, hd, hi, hz, hs1, hb1, -⟩ := tyf_spec hy
  have hv := Rep.ev henv s
  rw [hs] at hv
  have esv : a.eval s = .slice none 0 0 := by generalize a.eval s = v at hv; cases hv; rfl
  obtain ⟨A, c, eb, news, hnl, hn1, hnc, hnz, hnr⟩ := srcRows_rep hw (Rep.ev henv x) hx hsz2
  have hown : w.ownsRow 0 e y.size (.slice none 0 0) 0 [] := ⟨by simp, .inl ⟨rfl, rfl⟩⟩
  have fin : ∀ (v' : Value) (w' : World), (Builtin.append_ #[t, t] o.type #[.slice none 0 0, .slice A rows2.length c]).run P w = .ok v' w' → w'.ownsRow 0 e y.size v' rows2.length news → w.grownBy w' none →
      (v'.ownBlock = none ∨ v'.ownBlock = some w.heap.size) → OpSim P nid E h w o a (.ref nid rows2.length) (upd h nid (some (.arr e y.size rows2))) := by
    intro v' w' hr h2 h3 h4
    have hle : ELe E { E with ch := upd E.ch nid (.sl v') } := (EStep.new E nid _).le hu
    have hci : ∀ g, (ChI.sl v').block = some g → w.heap.size ≤ g := fun g hg => by
      rw [← ownBlock_eq] at hg
      rcases h4 with e4 | e4
      · rw [e4] at hg; cases hg
      · rw [e4] at hg; injection hg with hg; omega
    have hb : ∀ g, g < w.heap.size → w'.heap[g]? = w.heap[g]? := fun g hg => h3.block g hg (by simp)
    refine ⟨v', w', { E with ch := upd E.ch nid (.sl v') }, .inl ?_, ?_, .new E nid _, hw.new hu h3.size hb hci ⟨v', rfl, news, h2, hsz2, hnr, hn1, fun g hg => ?_⟩, .new h3.size hb hci ⟨h3.os, h3.output⟩⟩
    · unfold execOp
      simp only [ho, resolve, invoke, builtin, Sem.run_bind, Sem.run_pure, Result.andThen_ok, List.map_toArray, List.map_cons, List.map_nil, esv, eb]
      rw [hr]
      rfl
    · rcases h2.2 with ⟨rfl, h0⟩ | ⟨g, cap, cur, rfl, _⟩
      · rw [h0]; exact .ref (upd_same _ _ _) (fun hp => absurd hp (by omega))
      · exact .ref (upd_same _ _ _) (fun _ => ⟨g, 0, rfl⟩)
    · show E.I g = none
      rcases h4 with e4 | e4
      · rw [e4] at hg; cases hg
      · rw [e4] at hg
        injection hg with hg
        subst hg
        cases hi : E.I w.heap.size with
        | none => rfl
        | some ob => have := (Array.getElem?_eq_some_iff.1 (hw.imm _ _ hi)).1; omega
  cases A with
  | none =>
    have h0 := hnz rfl
    have hr0 : rows2 = [] := List.eq_nil_of_length_eq_zero h0
    subst hr0
    have hnn : news = [] := List.eq_nil_of_length_eq_zero (by simpa using hnl)
    subst hnn
    have hr : (Builtin.append_ #[t, t] o.type #[.slice none 0 0, .slice none 0 c]).run P w = .ok (.slice none 0 0) w := by
      simp [Builtin.append_, run_underlying (slE_spec ht), sizeOf, typeInfo, hi, Builtin.lenOf, Builtin.firstCells]
    exact fin _ w hr hown (World.grownBy.refl w _) (.inl rfl)
  | some ad =>
    obtain ⟨v', w', hr, h2, h3, -, h5⟩ := run_append_own_at (P := P) (w := w) 0 t o.type e i y.zero y.size y.bytes (slE_spec ht) hi hz hs1 hb1 hzs hpos (.slice none 0 0) 0 [] hown ad rows2.length c news hnl (hnc ad rfl) hn1 (by simpa using hm2) (by simpa using hm) (Nat.zero_le _)
    exact fin v' w' hr (by simpa using h2) h3 h5
end

end Go.Ab
