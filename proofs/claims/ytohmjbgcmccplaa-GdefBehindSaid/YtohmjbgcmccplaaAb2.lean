/- Abstract operations (pure ones, loads, stores, new memory) and why they tell what the model does. No condition. -/
import Derived.Test.YtohmjbgcmccplaaAb1
import Derived.Laws.Tables
import Derived.Laws.CopyRow
import Derived.Maps.AppendAt
import Derived.Great.BuildSlice
set_option linter.unusedVariables false
set_option linter.unusedSimpArgs false
namespace Go.Ab
open Go

/-! ### What is asked of types -/

structure TyF where
  agg : Bool
  size : Nat
  bytes : Nat
  zero : Value

def isAggD : TypeDesc → Bool
  | .struct _ => true
  | .array _ _ => true
  | _ => false

def tyf (P : Program) (t : TypeId) : Option TyF :=
  match P.underlying t, P.info? t with
  | some d, some i => match i.zero with
    | some z => some ⟨isAggD d, i.size, i.bytes, z⟩
    | none => none
  | _, _ => none

def slE (P : Program) (t : TypeId) : Option TypeId :=
  match P.underlying t with
  | some (.slice e) => some e
  | _ => none

def arE (P : Program) (t : TypeId) : Option (Nat × TypeId) :=
  match P.underlying t with
  | some (.array n e) => some (n, e)
  | _ => none

/-- A field's offset, its cells, whether it is a struct or an array. -/
def fOff (P : Program) (t : TypeId) (f : Nat) : Option (Nat × Nat × Bool) :=
  match P.underlying t with
  | some (.struct fs) => match fs[f]? with
    | some fld => match tyf P fld.type with
      | some y => if y.size = 0 then none else some (fld.offset, y.size, y.agg)
      | none => none
    | none => none
  | _ => none

theorem tyf_spec {P : Program} {t : TypeId} {y : TyF} (h : tyf P t = some y) :
    ∃ d i, P.underlying t = some d ∧ P.info? t = some i ∧ i.zero = some y.zero ∧ i.size = y.size ∧ i.bytes = y.bytes ∧ isAggD d = y.agg := by
  unfold tyf at h
  split at h
  · rename_i d i hd hi
    split at h
    · rename_i z hz
      injection h with h
      subst h
      exact ⟨d, i, hd, hi, hz, rfl, rfl, rfl⟩
    · cases h
  · cases h

theorem run_isAgg {P : Program} {t : TypeId} {y : TyF} (h : tyf P t = some y) (w : World) : (isAgg t).run P w = .ok y.agg w := by
  obtain ⟨d, i, hd, -, -, -, -, ha⟩ := tyf_spec h
  rw [← ha]
  cases d <;> simp [isAgg, run_underlying hd, isAggD]

theorem run_sizeT {P : Program} {t : TypeId} {y : TyF} (h : tyf P t = some y) (w : World) : (sizeOf t).run P w = .ok y.size w := by
  obtain ⟨d, i, -, hi, -, hs, -, -⟩ := tyf_spec h
  rw [← hs]
  simp [sizeOf, typeInfo, hi]

theorem run_zeroT {P : Program} {t : TypeId} {y : TyF} (h : tyf P t = some y) (w : World) : (zeroValue t).run P w = .ok y.zero w := by
  obtain ⟨d, i, -, hi, hz, -, -, -⟩ := tyf_spec h
  simp [zeroValue, typeInfo, hi, hz]

theorem slE_spec {P : Program} {t e : TypeId} (h : slE P t = some e) : P.underlying t = some (.slice e) := by
  unfold slE at h; split at h
  · rename_i h1; injection h with h; rw [h1, h]
  · cases h
theorem arE_spec {P : Program} {t : TypeId} {n : Nat} {e : TypeId} (h : arE P t = some (n, e)) : P.underlying t = some (.array n e) := by
  unfold arE at h; split at h
  · rename_i h1; injection h with h; injection h with h2 h3; subst h2; subst h3; exact h1
  · cases h

/-! ### Constants -/

def cst1 : Value → AV
  | .slice none 0 0 => .nil
  | v => .p (.sc v)

def cst : Value → AV
  | .agg cs => .agg (cs.toList.map cst1)
  | .tuple cs => .tup (cs.toList.map cst1)
  | v => cst1 v

def ev (env : AEnv) : Operand → AV
  | .tmp t => env t
  | .const v => cst v
  | .func f => .fn f []
  | .global _ => .any

theorem Rep.cst1 {E : Env} (v : Value) : Rep E (cst1 v) v := by
  unfold Ab.cst1
  split
  · exact .nil
  · exact .p (.sc _)

theorem Rep.cst {E : Env} (v : Value) : Rep E (cst v) v := by
  unfold Ab.cst
  split
  · rename_i cs
    refine .agg cs (by simp) (fun i => cs.getD i undef) (fun i hi => ?_) (fun i x hx => ?_)
    · simp at hi; simp [hi]
    · simp only [List.getElem?_map, Array.getElem?_toList] at hx
      cases hc : cs[i]? with
      | none => simp [hc] at hx
      | some u => simp [hc] at hx; subst hx; simp only [Array.getD_eq_getD_getElem?, hc, Option.getD_some]; exact Rep.cst1 u
  · rename_i cs
    refine .tup cs (by simp) (fun i => cs.getD i undef) (fun i hi => ?_) (fun i x hx => ?_)
    · simp at hi; simp [hi]
    · simp only [List.getElem?_map, Array.getElem?_toList] at hx
      cases hc : cs[i]? with
      | none => simp [hc] at hx
      | some u => simp [hc] at hx; subst hx; simp only [Array.getD_eq_getD_getElem?, hc, Option.getD_some]; exact Rep.cst1 u
  · exact Rep.cst1 v

theorem Rep.ev {E : Env} {env : AEnv} {a : Act} (h : ∀ k, Rep E (env k) (a.tmps.getD k undef)) (x : Operand) : Rep E (ev env x) (a.eval x) := by
  cases x with
  | tmp t => exact h t
  | const v => exact Rep.cst v
  | func f => exact .fn #[] rfl (fun _ => undef) (fun i hi => absurd hi (by simp)) (fun i x hx => by simp at hx)
  | global g => exact .any _

/-! ### Cells of values -/

def cellB : AV → Bool
  | .nil => true
  | .p (.sc v) => v.oneCell'
  | .p (.fro _) => true
  | .ptr _ _ => true
  | .ref _ _ => true
  | .apt _ _ _ _ => true
  | .rpt _ _ => true
  | .fn _ _ => true
  | _ => false

theorem Rep.one {E : Env} {x : AV} {v : Value} (h : Rep E x v) (hb : cellB x = true) : v.oneCell' = true := by
  cases h with
  | p h =>
    cases h with
    | sc v => exact hb
    | fro => rfl
  | _ => first | rfl | (simp [cellB] at hb)

/-- A list of cells and of values. -/
def RepL (E : Env) (xs : List AV) (vs : List Value) : Prop := xs.length = vs.length ∧ ∀ (i : Nat) (x : AV), xs[i]? = some x → ∃ v, vs[i]? = some v ∧ Rep E x v

theorem RepL.mono {E E' : Env} (h : ELe E E') {xs : List AV} {vs : List Value} (r : RepL E xs vs) : RepL E' xs vs :=
  ⟨r.1, fun i x hx => let ⟨v, hv, hr⟩ := r.2 i x hx; ⟨v, hv, hr.mono h⟩⟩
theorem RepL.nil (E : Env) : RepL E [] [] := ⟨rfl, fun i x hx => by simp at hx⟩
theorem RepL.cons {E : Env} {x : AV} {v : Value} {xs : List AV} {vs : List Value} (h : Rep E x v) (r : RepL E xs vs) : RepL E (x :: xs) (v :: vs) := by
  refine ⟨by simp [r.1], fun i y hy => ?_⟩
  cases i with
  | zero => simp at hy; subst hy; exact ⟨v, by simp, h⟩
  | succ i => simp at hy; obtain ⟨u, hu, hr⟩ := r.2 i y hy; exact ⟨u, by simp [hu], hr⟩

theorem RepL.of_agg {E : Env} {xs : List AV} {vs : Array Value} (h : Rep E (.agg xs) (.agg vs)) : RepL E xs vs.toList := by
  cases h with
  | agg _ hs u hu h =>
    refine ⟨by simp [hs], fun i x hx => ⟨u i, ?_, h i x hx⟩⟩
    have := hu i (List.getElem?_eq_some_iff.1 hx).1
    simpa using this
theorem RepL.agg {E : Env} {xs : List AV} {vs : Array Value} (h : RepL E xs vs.toList) : Rep E (.agg xs) (.agg vs) := by
  refine .agg vs (by simpa using h.1.symm) (fun i => vs.getD i undef) (fun i hi => ?_) (fun i x hx => ?_)
  · have : i < vs.size := by have := h.1; simp at this; omega
    simp [this]
  · obtain ⟨v, hv, hr⟩ := h.2 i x hx
    have hv' : vs[i]? = some v := by simpa using hv
    show Rep E x (vs.getD i undef)
    rw [Array.getD_eq_getD_getElem?, hv']
    exact hr
theorem RepL.tup {E : Env} {xs : List AV} {vs : Array Value} (h : RepL E xs vs.toList) : Rep E (.tup xs) (.tuple vs) := by
  refine .tup vs (by simpa using h.1.symm) (fun i => vs.getD i undef) (fun i hi => ?_) (fun i x hx => ?_)
  · have : i < vs.size := by have := h.1; simp at this; omega
    simp [this]
  · obtain ⟨v, hv, hr⟩ := h.2 i x hx
    have hv' : vs[i]? = some v := by simpa using hv
    show Rep E x (vs.getD i undef)
    rw [Array.getD_eq_getD_getElem?, hv']
    exact hr
theorem RepL.of_tup {E : Env} {xs : List AV} {v : Value} (h : Rep E (.tup xs) v) : ∃ vs, v = .tuple vs ∧ RepL E xs vs.toList := by
  cases h with
  | tup vs hs u hu h =>
    refine ⟨vs, rfl, by simp [hs], fun i x hx => ⟨u i, ?_, h i x hx⟩⟩
    have := hu i (List.getElem?_eq_some_iff.1 hx).1
    simpa using this

/-- The cells that a value has in memory. -/
def cellsL : AV → Option (List AV)
  | .agg xs => if xs.all cellB then some xs else none
  | .any => none
  | .tup _ => none
  | x => if cellB x then some [x] else none

theorem cellsL_rep {E : Env} {x : AV} {v : Value} {cs : List AV} (h : Rep E x v) (hc : cellsL x = some cs) :
    RepL E cs v.cells.toList ∧ v.cells.all (·.oneCell') = true := by
  have one : ∀ {y : AV}, y = x → (if cellB y = true then some [y] else none) = some cs → RepL E cs v.cells.toList ∧ v.cells.all (·.oneCell') = true := by
    intro y hy hd
    subst hy
    by_cases hb : cellB y = true
    · rw [if_pos hb] at hd
      injection hd with hd
      subst hd
      have h1 := h.one hb
      have hcl : v.cells = #[v] := by cases v <;> first | rfl | (simp [Value.oneCell'] at h1)
      rw [hcl]
      exact ⟨RepL.cons h (RepL.nil E), by simp [h1]⟩
    · rw [if_neg hb] at hd
      cases hd
  unfold cellsL at hc
  split at hc
  · rename_i xs
    split at hc
    · rename_i hall
      injection hc with hc
      subst hc
      cases h with
      | agg vs hs u hu h =>
        have hl := RepL.of_agg (.agg vs hs u hu h)
        refine ⟨hl, ?_⟩
        simp only [Value.cells]
        rw [Array.all_eq_true]
        intro i hi
        obtain ⟨x, hx⟩ : ∃ x, xs[i]? = some x := ⟨xs[i]'(by omega), List.getElem?_eq_getElem (by omega)⟩
        obtain ⟨v, hv, hr⟩ := hl.2 i x hx
        have hb : cellB x = true := List.all_eq_true.1 hall x (List.mem_of_getElem? hx)
        have hvi : vs[i] = v := by simpa [Array.getElem?_eq_getElem hi] using hv
        rw [hvi]
        exact hr.one hb
    · cases hc
  · cases hc
  · cases hc
  · exact one rfl hc

end Go.Ab
