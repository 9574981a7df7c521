/- Abstract values and heaps, and what they say of the model's values and worlds: the base of the abstract layer. No condition. -/
import Derived.WalkKit
namespace Go.Ab
open Go

/-! ### Pure values: what lies in memory that is never written again -/

inductive PV where
  | sc (v : Value)
  | fro (rows : List (List PV))

def icell (I : Nat → Option Obj) (a : Addr) : Option Value :=
  match I a.block with
  | some (.cells c _ _) => if a.spot.isSome then none else c[a.off]?
  | _ => none

inductive RepI (I : Nat → Option Obj) : PV → Value → Prop
  | sc (v : Value) : RepI I (.sc v) v
  | fro (sz : Nat) (rows : List (List PV)) (A : Option Addr) (g off c : Nat) (vs : Nat → Nat → Value)
      (hA : 0 < rows.length → A = some ⟨g, off, none⟩) (hc : rows.length ≤ c)
      (hr : ∀ r, r ∈ rows → r.length = sz)
      (hcell : ∀ i j, i < rows.length → j < sz → icell I ⟨g, off + i * sz + j, none⟩ = some (vs i j))
      (h1 : ∀ i j, i < rows.length → j < sz → (vs i j).oneCell' = true)
      (hrep : ∀ i j r x, rows[i]? = some r → r[j]? = some x → RepI I x (vs i j)) :
      RepI I (.fro rows) (.slice A rows.length c)

def ILe (I I' : Nat → Option Obj) : Prop := ∀ g o, I g = some o → I' g = some o

theorem ILe.refl (I : Nat → Option Obj) : ILe I I := fun _ _ h => h
theorem ILe.trans {I J K : Nat → Option Obj} (h : ILe I J) (h' : ILe J K) : ILe I K := fun g o e => h' g o (h g o e)

theorem icell_mono {I I' : Nat → Option Obj} (h : ILe I I') {a : Addr} {v : Value} (e : icell I a = some v) : icell I' a = some v := by
  unfold icell at e ⊢
  cases hi : I a.block with
  | none => simp [hi] at e
  | some o => rw [h _ _ hi]; simpa [hi] using e

theorem RepI.mono {I I' : Nat → Option Obj} (h : ILe I I') {x : PV} {v : Value} (r : RepI I x v) : RepI I' x v := by
  induction r with
  | sc v => exact .sc v
  | fro sz rows A g off c vs hA hc hr hcell h1 hrep ih =>
    exact .fro sz rows A g off c vs hA hc hr (fun i j hi hj => icell_mono h (hcell i j hi hj)) h1 ih

/-! ### Abstract values -/

inductive AV where
  | any
  | nil
  | p (x : PV)
  | ptr (id off : Nat)
  | ref (id n : Nat)
  | apt (id sz i j : Nat)
  | rpt (row : List PV) (j : Nat)
  | fn (f : FuncId) (caps : List AV)
  | agg (xs : List AV)
  | tup (xs : List AV)

inductive ChI where
  | unborn | dead
  | blk (g : Nat)
  | sl (v : Value)

structure Env where
  I : Nat → Option Obj
  ch : Nat → ChI

inductive Rep (E : Env) : AV → Value → Prop
  | any (v : Value) : Rep E .any v
  | nil : Rep E .nil (.slice none 0 0)
  | p {x : PV} {v : Value} (h : RepI E.I x v) : Rep E (.p x) v
  | ptr {id off g : Nat} (h : E.ch id = .blk g) : Rep E (.ptr id off) (.pointer (some ⟨g, off, none⟩))
  | ptrd {id off : Nat} (q : Addr) (h : E.ch id = .dead) : Rep E (.ptr id off) (.pointer (some q))
  | ref {id n c : Nat} {A : Option Addr} (h : E.ch id = .sl (.slice A n c)) (hA : 0 < n → ∃ g off, A = some ⟨g, off, none⟩) : Rep E (.ref id n) (.slice A n c)
  | refd {id n : Nat} (A : Option Addr) (c : Nat) (h : E.ch id = .dead) (hA : 0 < n → ∃ g off, A = some ⟨g, off, none⟩) : Rep E (.ref id n) (.slice A n c)
  | apt {id sz i j n c g off : Nat} (h : E.ch id = .sl (.slice (some ⟨g, off, none⟩) n c)) :
      Rep E (.apt id sz i j) (.pointer (some ⟨g, off + i * sz + j, none⟩))
  | aptd {id sz i j : Nat} (q : Addr) (h : E.ch id = .dead) : Rep E (.apt id sz i j) (.pointer (some q))
  | rpt {row : List PV} {j : Nat} (g off : Nat) (vs : Nat → Value)
      (hcell : ∀ k, k < row.length → icell E.I ⟨g, off + k, none⟩ = some (vs k))
      (h1 : ∀ k, k < row.length → (vs k).oneCell' = true)
      (hrep : ∀ k x, row[k]? = some x → RepI E.I x (vs k)) : Rep E (.rpt row j) (.pointer (some ⟨g, off + j, none⟩))
  | fn {f : FuncId} {caps : List AV} (vs : Array Value) (hs : vs.size = caps.length) (u : Nat → Value)
      (hu : ∀ i, i < caps.length → vs[i]? = some (u i)) (h : ∀ i x, caps[i]? = some x → Rep E x (u i)) :
      Rep E (.fn f caps) (.func (.func f) #[] vs)
  | agg {xs : List AV} (vs : Array Value) (hs : vs.size = xs.length) (u : Nat → Value)
      (hu : ∀ i, i < xs.length → vs[i]? = some (u i)) (h : ∀ i x, xs[i]? = some x → Rep E x (u i)) : Rep E (.agg xs) (.agg vs)
  | tup {xs : List AV} (vs : Array Value) (hs : vs.size = xs.length) (u : Nat → Value)
      (hu : ∀ i, i < xs.length → vs[i]? = some (u i)) (h : ∀ i x, xs[i]? = some x → Rep E x (u i)) : Rep E (.tup xs) (.tuple vs)

structure ELe (E E' : Env) : Prop where
  I : ILe E.I E'.I
  ch : ∀ id, E.ch id = .unborn ∨ E'.ch id = E.ch id ∨ E'.ch id = .dead

theorem ELe.refl (E : Env) : ELe E E := ⟨.refl _, fun _ => .inr (.inl rfl)⟩
theorem ELe.trans {E F G : Env} (h : ELe E F) (h' : ELe F G) : ELe E G := by
  refine ⟨h.I.trans h'.I, fun id => ?_⟩
  rcases h.ch id with e | e | e
  · exact .inl e
  · rcases h'.ch id with f | f | f
    · left; rw [← e, f]
    · right; left; rw [f, e]
    · right; right; exact f
  · rcases h'.ch id with f | f | f
    · rw [e] at f; cases f
    · right; right; rw [f, e]
    · right; right; exact f

theorem Rep.mono {E E' : Env} (h : ELe E E') {x : AV} {v : Value} (r : Rep E x v) : Rep E' x v := by
  induction r with
  | any v => exact .any v
  | nil => exact .nil
  | p hx => exact .p (hx.mono h.I)
  | @ptr id off g hc =>
    rcases h.ch id with e | e | e
    · rw [hc] at e; cases e
    · exact .ptr (e.trans hc)
    · exact .ptrd _ e
  | @ptrd id off q hc =>
    rcases h.ch id with e | e | e
    · rw [hc] at e; cases e
    · exact .ptrd q (e.trans hc)
    · exact .ptrd q e
  | @ref id n c A hc hA =>
    rcases h.ch id with e | e | e
    · rw [hc] at e; cases e
    · exact .ref (e.trans hc) hA
    · exact .refd _ _ e hA
  | @refd id n A c hc hA =>
    rcases h.ch id with e | e | e
    · rw [hc] at e; cases e
    · exact .refd _ _ (e.trans hc) hA
    · exact .refd _ _ e hA
  | @apt id sz i j n c g off hc =>
    rcases h.ch id with e | e | e
    · rw [hc] at e; cases e
    · exact .apt (e.trans hc)
    · exact .aptd _ e
  | @aptd id sz i j q hc =>
    rcases h.ch id with e | e | e
    · rw [hc] at e; cases e
    · exact .aptd _ (e.trans hc)
    · exact .aptd _ e
  | rpt g off vs hcell h1 hrep => exact .rpt g off vs (fun k hk => icell_mono h.I (hcell k hk)) h1 (fun k x hx => (hrep k x hx).mono h.I)
  | fn vs hs u hu _ ih => exact .fn vs hs u hu ih
  | agg vs hs u hu _ ih => exact .agg vs hs u hu ih
  | tup vs hs u hu _ ih => exact .tup vs hs u hu ih

/-! ### Abstract heaps -/

inductive Ck where
  | box (t : TypeId) (cells : List AV)
  | arr (e : TypeId) (sz : Nat) (rows : List (List PV))
  | fz (rows : List (List PV))

abbrev AHeap := Nat → Option Ck
abbrev AEnv := Nat → AV

def upd {α : Type} (f : Nat → α) (k : Nat) (v : α) : Nat → α := fun j => if j = k then v else f j
theorem upd_same {α : Type} (f : Nat → α) (k : Nat) (v : α) : upd f k v k = v := by simp [upd]
theorem upd_other {α : Type} (f : Nat → α) {k j : Nat} (v : α) (h : j ≠ k) : upd f k v j = f j := by simp [upd, h]
theorem upd_comm {α : Type} (f : Nat → α) {k j : Nat} (v u : α) (h : j ≠ k) : upd (upd f k v) j u = upd (upd f j u) k v := by
  funext i; unfold upd; by_cases h1 : i = j <;> by_cases h2 : i = k <;> simp [h1, h2]
  · subst h1; subst h2; exact absurd rfl h
  · subst h1; simp [h]
  · subst h2; intro e; exact absurd e.symm h

def ChI.block : ChI → Option Nat
  | .blk g => some g
  | .sl (.slice (some a) _ _) => some a.block
  | _ => none

/-- Is this chunk one that may be written? -/
def Ck.owned : Option Ck → Bool
  | some (.box ..) => true
  | some (.arr ..) => true
  | _ => false

def own (E : Env) (h : AHeap) (g : Nat) : Prop := ∃ id, Ck.owned (h id) = true ∧ (E.ch id).block = some g

/-- An array of the call's own: nil and empty, or the head of a block, whose first cells are the rows. -/
def ArrOK (E : Env) (w : World) (e : TypeId) (sz : Nat) (rows : List (List PV)) (v : Value) : Prop :=
  ∃ xs : List Value, w.ownsRow 0 e sz v rows.length xs ∧ (∀ r, r ∈ rows → r.length = sz) ∧
    (∀ (i j : Nat) (r : List PV) (x : PV), rows[i]? = some r → r[j]? = some x → ∃ u, xs[i * sz + j]? = some u ∧ RepI E.I x u) ∧
    (∀ u, u ∈ xs → u.oneCell' = true) ∧ ∀ g, v.ownBlock = some g → E.I g = none

def CkOK (E : Env) (w : World) (ci : ChI) : Option Ck → Prop
  | none => True
  | some (.box t cells) => ∃ g vs, ci = .blk g ∧ w.heap[g]? = some (.cells vs t (0, 0)) ∧ vs.size = cells.length ∧
      (∀ (j : Nat) (x : AV), cells[j]? = some x → ∃ v, vs[j]? = some v ∧ Rep E x v) ∧ E.I g = none
  | some (.arr e sz rows) => ∃ v, ci = .sl v ∧ ArrOK E w e sz rows v
  | some (.fz rows) => ∃ v, ci = .sl v ∧ RepI E.I (.fro rows) v

structure WOK (E : Env) (h : AHeap) (w : World) : Prop where
  imm : ∀ g o, E.I g = some o → w.heap[g]? = some o
  ck : ∀ id, CkOK E w (E.ch id) (h id)
  dist : ∀ id id' g, id ≠ id' → Ck.owned (h id) = true → Ck.owned (h id') = true → (E.ch id).block = some g → (E.ch id').block ≠ some g

/-- From one moment to a later one: what was not owned, is as it was. m: the chunks that bear their numbers on. -/
structure Evol (m : Nat) (E : Env) (h : AHeap) (w : World) (E' : Env) (h' : AHeap) (w' : World) : Prop where
  I : ILe E.I E'.I
  ch : ∀ id, id < m → E'.ch id = E.ch id ∨ E'.ch id = .dead
  size : w.heap.size ≤ w'.heap.size
  frame : ∀ g, g < w.heap.size → ¬ own E h g → w'.heap[g]? = w.heap[g]?
  imm : ∀ g o, E'.I g = some o → E.I g = some o ∨ w.heap.size ≤ g ∨ own E h g
  owned : ∀ g, own E' h' g → w.heap.size ≤ g ∨ own E h g
  same : w'.os = w.os ∧ w'.output = w.output

theorem Evol.refl (m : Nat) (E : Env) (h : AHeap) (w : World) : Evol m E h w E h w :=
  ⟨.refl _, fun _ _ => .inl rfl, Nat.le_refl _, fun _ _ _ => rfl, fun _ _ e => .inl e, fun _ e => .inr e, rfl, rfl⟩

theorem Evol.trans {m : Nat} {E E' E'' : Env} {h h' h'' : AHeap} {w w' w'' : World} (a : Evol m E h w E' h' w') (b : Evol m E' h' w' E'' h'' w'') :
    Evol m E h w E'' h'' w'' := by
  refine ⟨a.I.trans b.I, fun id hid => ?_, Nat.le_trans a.size b.size, fun g hg hn => ?_, fun g o e => ?_, fun g e => ?_, b.same.1.trans a.same.1, b.same.2.trans a.same.2⟩
  · rcases b.ch id hid with e | e
    · rcases a.ch id hid with f | f
      · left; rw [e, f]
      · right; rw [e, f]
    · exact .inr e
  · rw [b.frame g (Nat.lt_of_lt_of_le hg a.size) (fun ho => ?_), a.frame g hg hn]
    rcases a.owned g ho with h1 | h1
    · omega
    · exact hn h1
  · rcases b.imm g o e with h1 | h1 | h1
    · exact a.imm g o h1
    · exact .inr (.inl (Nat.le_trans a.size h1))
    · exact .inr (a.owned g h1)
  · rcases b.owned g e with h1 | h1
    · exact .inl (Nat.le_trans a.size h1)
    · exact a.owned g h1

theorem Evol.lower {m m' : Nat} (hm : m' ≤ m) {E E' : Env} {h h' : AHeap} {w w' : World} (a : Evol m E h w E' h' w') : Evol m' E h w E' h' w' :=
  { a with ch := fun id hid => a.ch id (Nat.lt_of_lt_of_le hid hm) }

end Go.Ab
