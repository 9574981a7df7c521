/- Chunks under other numbers, calls, regions, loops and whole functions in the abstract layer. No condition. -/
import Derived.Test.YtohmjbgcmccplaaAa1
import Derived.ChangeKeysEq
import Derived.Scope
import Derived.KernelRfl
set_option linter.unusedVariables false
set_option linter.unusedSimpArgs false
namespace Go.Ab
open Go

mutual
def ren (ρ : Nat → Nat) : AV → AV
  | .any => .any
  | .nil => .nil
  | .p x => .p x
  | .ptr id off => .ptr (ρ id) off
  | .ref id n => .ref (ρ id) n
  | .apt id sz i j => .apt (ρ id) sz i j
  | .rpt row j => .rpt row j
  | .fn f caps => .fn f (renL ρ caps)
  | .agg xs => .agg (renL ρ xs)
  | .tup xs => .tup (renL ρ xs)
def renL (ρ : Nat → Nat) : List AV → List AV
  | [] => []
  | x :: xs => ren ρ x :: renL ρ xs
end

mutual
def idsLt (m : Nat) : AV → Prop
  | .ptr id _ => id < m
  | .ref id _ => id < m
  | .apt id _ _ _ => id < m
  | .fn _ caps => idsLtL m caps
  | .agg xs => idsLtL m xs
  | .tup xs => idsLtL m xs
  | _ => True
def idsLtL (m : Nat) : List AV → Prop
  | [] => True
  | x :: xs => idsLt m x ∧ idsLtL m xs
end

theorem renL_eq (ρ : Nat → Nat) : ∀ xs, renL ρ xs = xs.map (ren ρ)
  | [] => rfl
  | x :: xs => by rw [renL, renL_eq ρ xs]; rfl
theorem idsLtL_iff (m : Nat) : ∀ xs, idsLtL m xs ↔ ∀ x ∈ xs, idsLt m x
  | [] => by simp [idsLtL]
  | x :: xs => by simp [idsLtL, idsLtL_iff m xs]

def renCk (ρ : Nat → Nat) : Ck → Ck
  | .box t cells => .box t (renL ρ cells)
  | .arr e sz rows => .arr e sz rows
  | .fz rows => .fz rows

def idsLtCk (m : Nat) : Option Ck → Prop
  | some (.box _ cells) => idsLtL m cells
  | _ => True

theorem owned_ren (ρ : Nat → Nat) (ck : Option Ck) : Ck.owned (ck.map (renCk ρ)) = Ck.owned ck := by
  match ck with
  | none => rfl
  | some (.box ..) => rfl
  | some (.arr ..) => rfl
  | some (.fz ..) => rfl

/-! ### From inside out -/

structure RLe (ρ : Nat → Nat) (E F : Env) : Prop where
  I : ILe E.I F.I
  ch : ∀ id, E.ch id = .unborn ∨ F.ch (ρ id) = E.ch id ∨ F.ch (ρ id) = .dead

theorem Rep.push {ρ : Nat → Nat} {E F : Env} {m : Nat} (hI : ILe E.I F.I) (hc : ∀ id, id < m → F.ch (ρ id) = E.ch id) {x : AV} {v : Value} (h : Rep E x v) : idsLt m x → Rep F (ren ρ x) v := by
  induction h with
  | any v => intro _; exact .any v
  | nil => intro _; exact .nil
  | p hx => intro _; exact .p (hx.mono hI)
  | ptr h => intro hid; exact .ptr ((hc _ hid).trans h)
  | ptrd q h => intro hid; exact .ptrd q ((hc _ hid).trans h)
  | ref h hA => intro hid; exact .ref ((hc _ hid).trans h) hA
  | refd A c h hA => intro hid; exact .refd A c ((hc _ hid).trans h) hA
  | apt h => intro hid; exact .apt ((hc _ hid).trans h)
  | aptd q h => intro hid; exact .aptd q ((hc _ hid).trans h)
  | rpt g off vs hcell h1 hrep => intro _; exact .rpt g off vs (fun k hk => icell_mono hI (hcell k hk)) h1 (fun k x hx => (hrep k x hx).mono hI)
  | @fn f caps vs hs u hu _ ih =>
    intro hid
    simp only [idsLt, idsLtL_iff] at hid
    simp only [ren, renL_eq]
    refine .fn vs (by simpa using hs) u (fun i hi => hu i (by simpa using hi)) (fun i x hx => ?_)
    simp only [List.getElem?_map] at hx
    cases hy : caps[i]? with
    | none => rw [hy] at hx; cases hx
    | some y => rw [hy] at hx; injection hx with hx; subst hx; exact ih i y hy (hid y (List.mem_of_getElem? hy))
  | @agg xs vs hs u hu _ ih =>
    intro hid
    simp only [idsLt, idsLtL_iff] at hid
    simp only [ren, renL_eq]
    refine .agg vs (by simpa using hs) u (fun i hi => hu i (by simpa using hi)) (fun i x hx => ?_)
    simp only [List.getElem?_map] at hx
    cases hy : xs[i]? with
    | none => rw [hy] at hx; cases hx
    | some y => rw [hy] at hx; injection hx with hx; subst hx; exact ih i y hy (hid y (List.mem_of_getElem? hy))
  | @tup xs vs hs u hu _ ih =>
    intro hid
    simp only [idsLt, idsLtL_iff] at hid
    simp only [ren, renL_eq]
    refine .tup vs (by simpa using hs) u (fun i hi => hu i (by simpa using hi)) (fun i x hx => ?_)
    simp only [List.getElem?_map] at hx
    cases hy : xs[i]? with
    | none => rw [hy] at hx; cases hx
    | some y => rw [hy] at hx; injection hx with hx; subst hx; exact ih i y hy (hid y (List.mem_of_getElem? hy))

/-- The chunks below m, under their numbers inside. -/
def pull (ρ : Nat → Nat) (m : Nat) (E : Env) : Env := { I := E.I, ch := fun i => if i < m then E.ch (ρ i) else .unborn }

theorem pull_ch {ρ : Nat → Nat} {m i : Nat} {E : Env} (h : i < m) : (pull ρ m E).ch i = E.ch (ρ i) := by simp [pull, h]

theorem Rep.pull {ρ : Nat → Nat} {E : Env} {m : Nat} {y : AV} {v : Value} (h : Rep E y v) : ∀ x, y = ren ρ x → idsLt m x → Rep (pull ρ m E) x v := by
  induction h with
  | any v => intro x e _; cases x <;> simp only [ren] at e <;> first | exact .any v | cases e
  | nil => intro x e _; cases x <;> simp only [ren] at e <;> first | exact .nil | cases e
  | p hx => intro x e _; cases x <;> simp only [ren] at e <;> first | (injection e with e; subst e; exact .p hx) | cases e
  | ptr h => intro x e hid; cases x <;> simp only [ren] at e <;> first | (injection e with e1 e2; subst e1; subst e2; exact .ptr ((pull_ch hid).trans h)) | cases e
  | ptrd q h => intro x e hid; cases x <;> simp only [ren] at e <;> first | (injection e with e1 e2; subst e1; subst e2; exact .ptrd q ((pull_ch hid).trans h)) | cases e
  | ref h hA => intro x e hid; cases x <;> simp only [ren] at e <;> first | (injection e with e1 e2; subst e1; subst e2; exact .ref ((pull_ch hid).trans h) hA) | cases e
  | refd A c h hA => intro x e hid; cases x <;> simp only [ren] at e <;> first | (injection e with e1 e2; subst e1; subst e2; exact .refd A c ((pull_ch hid).trans h) hA) | cases e
  | apt h => intro x e hid; cases x <;> simp only [ren] at e <;> first | (injection e with e1 e2 e3 e4; subst e1; subst e2; subst e3; subst e4; exact .apt ((pull_ch hid).trans h)) | cases e
  | aptd q h => intro x e hid; cases x <;> simp only [ren] at e <;> first | (injection e with e1 e2 e3 e4; subst e1; subst e2; subst e3; subst e4; exact .aptd q ((pull_ch hid).trans h)) | cases e
  | rpt g off vs hcell h1 hrep => intro x e _; cases x <;> simp only [ren] at e <;> first | (injection e with e1 e2; subst e1; subst e2; exact .rpt g off vs hcell h1 hrep) | cases e
  | fn vs hs u hu _ ih =>
    intro x e hid
    cases x <;> simp only [ren] at e <;> try (cases e; done)
    rename_i f caps
    injection e with e1 e2
    subst e1; subst e2
    simp only [idsLt, idsLtL_iff] at hid
    simp only [renL_eq] at hs hu ih
    refine .fn vs (by simpa using hs) u (fun i hi => hu i (by simpa using hi)) (fun i x hx => ?_)
    exact ih i (ren ρ x) (by simp [hx]) x rfl (hid x (List.mem_of_getElem? hx))
  | agg vs hs u hu _ ih =>
    intro x e hid
    cases x <;> simp only [ren] at e <;> try (cases e; done)
    rename_i xs
    injection e with e1
    subst e1
    simp only [idsLt, idsLtL_iff] at hid
    simp only [renL_eq] at hs hu ih
    refine .agg vs (by simpa using hs) u (fun i hi => hu i (by simpa using hi)) (fun i x hx => ?_)
    exact ih i (ren ρ x) (by simp [hx]) x rfl (hid x (List.mem_of_getElem? hx))
  | tup vs hs u hu _ ih =>
    intro x e hid
    cases x <;> simp only [ren] at e <;> try (cases e; done)
    rename_i xs
    injection e with e1
    subst e1
    simp only [idsLt, idsLtL_iff] at hid
    simp only [renL_eq] at hs hu ih
    refine .tup vs (by simpa using hs) u (fun i hi => hu i (by simpa using hi)) (fun i x hx => ?_)
    exact ih i (ren ρ x) (by simp [hx]) x rfl (hid x (List.mem_of_getElem? hx))

theorem CkOK.pull {ρ : Nat → Nat} {E : Env} {w : World} {m : Nat} {ci : ChI} {ck : Option Ck} (h : CkOK E w ci (ck.map (renCk ρ))) (hid : idsLtCk m ck) : CkOK (pull ρ m E) w ci ck := by
  match ck, h with
  | none, _ => trivial
  | some (.box t cells), ⟨g, vs, e, hg, hs, hc, hn⟩ =>
    simp only [idsLtCk, idsLtL_iff] at hid
    rw [renL_eq] at hs hc
    refine ⟨g, vs, e, hg, by simpa using hs, fun j x hx => ?_, hn⟩
    obtain ⟨v, hv, hr⟩ := hc j (ren ρ x) (by simp [hx])
    exact ⟨v, hv, hr.pull x rfl (hid x (List.mem_of_getElem? hx))⟩
  | some (.arr e sz rows), ⟨v, e1, ha⟩ => exact ⟨v, e1, ha⟩
  | some (.fz rows), ⟨v, e1, ha⟩ => exact ⟨v, e1, ha⟩

/-- What is seen inside: the chunks below m. -/
theorem WOK.pull {ρ : Nat → Nat} {E : Env} {h l : AHeap} {w : World} {m : Nat} (hw : WOK E h w) (hl : ∀ i, i < m → l i = none ∨ h (ρ i) = (l i).map (renCk ρ)) (hn : ∀ i, m ≤ i → l i = none)
    (hid : ∀ i, idsLtCk m (l i)) (inj : ∀ i j, l i ≠ none → l j ≠ none → i ≠ j → ρ i ≠ ρ j) : WOK (pull ρ m E) l w := by
  refine ⟨hw.imm, fun i => ?_, fun i j g hij h1 h2 e1 => ?_⟩
  · by_cases hi : i < m
    · rw [pull_ch hi]
      rcases hl i hi with e | e
      · rw [e]; trivial
      · have := hw.ck (ρ i)
        rw [e] at this
        exact this.pull (hid i)
    · rw [hn i (by omega)]; trivial
  · have lt : ∀ k, Ck.owned (l k) = true → k < m ∧ h (ρ k) = (l k).map (renCk ρ) := by
      intro k hk
      rcases Nat.lt_or_ge k m with hkm | hkm
      · refine ⟨hkm, (hl k hkm).resolve_left (fun e => ?_)⟩
        rw [e] at hk; cases hk
      · rw [hn k hkm] at hk; cases hk
    obtain ⟨a1, a2⟩ := lt i h1
    obtain ⟨b1, b2⟩ := lt j h2
    rw [pull_ch a1] at e1
    rw [pull_ch b1]
    exact hw.dist (ρ i) (ρ j) g (inj i j (fun e => by rw [e] at h1; cases h1) (fun e => by rw [e] at h2; cases h2) hij) (by rw [a2, owned_ren]; exact h1) (by rw [b2, owned_ren]; exact h2) e1

theorem own_pull {ρ : Nat → Nat} {E : Env} {h l : AHeap} {m g : Nat} (hl : ∀ i, i < m → l i = none ∨ h (ρ i) = (l i).map (renCk ρ)) (hn : ∀ i, m ≤ i → l i = none) (ho : own (pull ρ m E) l g) :
    ∃ i, i < m ∧ Ck.owned (h (ρ i)) = true ∧ (E.ch (ρ i)).block = some g := by
  obtain ⟨i, h1, h2⟩ := ho
  rcases Nat.lt_or_ge i m with hi | hi
  · refine ⟨i, hi, ?_, by rw [pull_ch hi] at h2; exact h2⟩
    rcases hl i hi with e | e
    · rw [e] at h1; cases h1
    · rw [e, owned_ren]; exact h1
  · rw [hn i hi] at h1; cases h1

/-! ### Behind a call: rs are the caller's numbers of the chunks handed over, nid the number of a new one -/

def look (rs : List Nat) (nid : Nat) (i : Nat) : Nat := rs.getD i nid

/-- Of a caller's number the number inside. -/
def inside (rs : List Nat) (nid id : Nat) : Option Nat := if id = nid then some rs.length else rs.idxOf? id

def pushCh (rs : List Nat) (nid : Nat) (F : Nat → ChI) (E : Nat → ChI) : Nat → ChI := fun id => match inside rs nid id with
  | some i => F i
  | none => E id

def pushH (rs : List Nat) (nid : Nat) (l h : AHeap) : AHeap := fun id => match inside rs nid id with
  | some i => (l i).map (renCk (look rs nid))
  | none => h id

theorem inside_look {rs : List Nat} {nid i : Nat} (hd : rs.Nodup) (hn : nid ∉ rs) (hi : i ≤ rs.length) : inside rs nid (look rs nid i) = some i := by
  unfold inside look
  rcases Nat.lt_or_ge i rs.length with h | h
  · have hg : rs.getD i nid = rs[i] := by simp [h]
    have hne : ¬ rs[i] = nid := fun e => hn (by rw [← e]; exact List.getElem_mem h)
    rw [hg, if_neg hne]
    rw [List.idxOf?_eq_some_iff]
    exact ⟨h, rfl, fun j hj => by
      intro e
      have hj' : j < rs.length := by omega
      exact absurd ((List.getElem_inj hd).1 e) (by omega)⟩
  · have : i = rs.length := by omega
    subst this
    simp

theorem inside_some {rs : List Nat} {nid id i : Nat} (h : inside rs nid id = some i) : i ≤ rs.length ∧ look rs nid i = id := by
  unfold inside at h
  split at h
  · rename_i e
    injection h with h
    subst h; subst e
    exact ⟨Nat.le_refl _, by simp [look]⟩
  · rw [List.idxOf?_eq_some_iff] at h
    obtain ⟨h1, h2, -⟩ := h
    exact ⟨by omega, by simp [look, h1, h2]⟩

theorem inside_none {rs : List Nat} {nid id : Nat} (h : inside rs nid id = none) : id ≠ nid ∧ id ∉ rs := by
  unfold inside at h
  split at h
  · cases h
  · rename_i e
    exact ⟨e, by simpa using h⟩

end Go.Ab

set_option linter.unusedVariables false
set_option linter.unusedSimpArgs false
namespace Go.Ab
open Go

mutual
theorem ren_id : ∀ x : AV, ren (fun i => i) x = x
  | .any | .nil | .p _ | .ptr _ _ | .ref _ _ | .apt _ _ _ _ | .rpt _ _ => rfl
  | .fn f xs => by rw [ren, renL_id xs]
  | .agg xs => by rw [ren, renL_id xs]
  | .tup xs => by rw [ren, renL_id xs]
theorem renL_id : ∀ xs : List AV, renL (fun i => i) xs = xs
  | [] => rfl
  | x :: xs => by rw [renL, ren_id x, renL_id xs]
end

theorem Rep.free {E F : Env} {x : AV} {v : Value} (h : Rep E x v) (hI : ILe E.I F.I) (hi : idsLt 0 x) : Rep F x v := by
  have := h.push (F := F) (ρ := fun i => i) (m := 0) hI (fun id hid => absurd hid (by omega)) hi
  rwa [ren_id] at this

/-- What a function leaves: its result and the chunks handed over, and at most one new one. -/
structure Tidy (m : Nat) (x : AV) (h : AHeap) : Prop where
  x : idsLt (m + 1) x
  none : ∀ id, m < id → h id = none
  ck : ∀ id, idsLtCk (m + 1) (h id)

/-- One panic of its own. -/
def pan (v : Value) : List PanicEntry := [{ v, recovered := false }]

def APost (m : Nat) (E : Env) (H : AHeap) (w : World) (R : AV → AHeap → Prop) (Rp : AV → Prop) (e : Ending) (w' : World) : Prop :=
  (∃ v E' x h', e = .returned v ∧ Rep E' x v ∧ R x h' ∧ Tidy m x h' ∧ WOK E' h' w' ∧ Evol m E H w E' h' w') ∨
  (∃ v E' x, e = .panicked (pan v) ∧ Rep E' x v ∧ Rp x ∧ idsLt 0 x ∧ WOK E' (fun _ => Option.none) w' ∧ Evol m E H w E' (fun _ => Option.none) w')

def ACalls (P : Program) (f : FuncId) (m : Nat) (args : List AV) (H : AHeap) (R : AV → AHeap → Prop) (Rp : AV → Prop) : Prop :=
  ∀ (E : Env) (w : World) (vs : Array Value), WOK E H w → (∀ id, m ≤ id → E.ch id = .unborn) → RepL E args vs.toList → Calls P f vs w (APost m E H w R Rp)

theorem ACalls.mono {P : Program} {f : FuncId} {m : Nat} {args : List AV} {H : AHeap} {R R' : AV → AHeap → Prop} {Rp Rp' : AV → Prop} (hc : ACalls P f m args H R Rp)
    (h : ∀ x h, R x h → R' x h) (hp : ∀ x, Rp x → Rp' x) : ACalls P f m args H R' Rp' := by
  intro E w vs hw hf hr
  refine (hc E w vs hw hf hr).mono fun e w' he => ?_
  rcases he with ⟨v, E', x, h', e1, e2, e3, e4⟩ | ⟨v, E', x, e1, e2, e3, e4⟩
  · exact .inl ⟨v, E', x, h', e1, e2, h _ _ e3, e4⟩
  · exact .inr ⟨v, E', x, e1, e2, hp _ e3, e4⟩

/-- One operation's way on. -/
def OpGo (P : Program) (nid : Nat) (E : Env) (h : AHeap) (w : World) (o : Oper) (a : Act) (K : AV → AHeap → Prop) (Kp : AV → Prop) : Prop :=
  ∀ (next : Act → World → Prop) (Q : Exit → Act → World → Prop),
    (∀ val w' E' x h', K x h' → Rep E' x val → EStep nid E E' → WOK E' h' w' → Moved E h w E' h' w' → next (a.put o.dst val) w') →
    (∀ v w' E' x h', Kp x → Rep E' x v → idsLt 0 x → EStep nid E E' → WOK E' h' w' → Moved E h w E' h' w' → (∀ id, h id = none → h' id = none) → Q (.panic (pan v)) a w') →
    o.wp P a w next Q

theorem OpSim.go {P : Program} {nid : Nat} {E : Env} {h : AHeap} {w : World} {o : Oper} {a : Act} {x : AV} {h' : AHeap} {K : AV → AHeap → Prop} {Kp : AV → Prop} (hs : OpSim P nid E h w o a x h') (hk : K x h') :
    OpGo P nid E h w o a K Kp := by
  intro next Q hn _
  obtain ⟨val, w', E', hr, h1, h2, h3, h4⟩ := hs
  unfold Oper.wp
  rcases hr with hr | ⟨hr, hv⟩
  · rw [hr]; exact hn val w' E' x h' hk h1 h2 h3 h4
  · rw [hr]
    have := hn val w' E' x h' hk h1 h2 h3 h4
    rw [hv] at this
    exact this

def callable (P : Program) (f : FuncId) : Bool :=
  match P.funcs[f]? with
  | some fn => fn.body.isSome && fn.name != "runtime.NumGoroutine"
  | none => false

theorem run_callFunc {P : Program} {f : FuncId} (h : callable P f = true) (args : Array Value) (w : World) : (callFunc f args).run P w = .ok (.enter f args) w := by
  unfold callable at h
  split at h
  · rename_i fn hf
    simp only [Bool.and_eq_true, bne_iff_ne, ne_eq] at h
    obtain ⟨h1, h2⟩ := h
    have hb : fn.body ≠ none := by intro e; rw [e] at h1; cases h1
    have hp : (program : Sem Program).run P w = .ok P w := rfl
    unfold callFunc
    rw [Sem.run_bind, hp]
    simp [hf, h2, hb]
  · cases h

/-- The callee, and what it is handed behind the operands. -/
def calleeA (env : AEnv) (x : Operand) : Option (FuncId × List AV) :=
  match ev env x with
  | .fn f caps => some (f, caps)
  | _ => none

theorem run_call {P : Program} {E : Env} {env : AEnv} {w : World} {o : Oper} {a : Act} {fo : Operand} {args : Array Operand} {ats : Array TypeId} {f : FuncId} {caps : List AV}
    (henv : ∀ k, Rep E (env k) (a.tmps.getD k undef)) (ho : o.op = .call { callee := .value fo, args, argTypes := ats }) (hf : calleeA env fo = some (f, caps)) (hc : callable P f = true) :
    ∃ vs : Array Value, (execOp a.eval o).run P w = .ok (.enter f vs) w ∧ RepL E (args.toList.map (ev env) ++ caps) vs.toList := by
  have hr := Rep.ev henv fo
  unfold calleeA at hf
  split at hf
  · rename_i f' caps' he
    injection hf with hf
    injection hf with hf1 hf2
    subst hf1; subst hf2
    rw [he] at hr
    obtain ⟨vs, e1, hl⟩ : ∃ vs, a.eval fo = .func (.func f') #[] vs ∧ RepL E caps' vs.toList := by
      generalize a.eval fo = v at hr
      cases hr with
      | fn vs hs u hu hh =>
        refine ⟨vs, rfl, by simp [hs], fun i x hx => ⟨u i, ?_, hh i x hx⟩⟩
        have := hu i (List.getElem?_eq_some_iff.1 hx).1
        simpa using this
    refine ⟨args.map a.eval ++ vs, ?_, ?_⟩
    · have := run_callFunc (P := P) hc (args.map a.eval ++ vs) w
      simp [execOp, ho, resolve, e1, Deferred.ofValue, invoke, this]
    · refine ⟨by simp [hl.1], fun i x hx => ?_⟩
      by_cases hi : i < args.size
      · rw [List.getElem?_append_left (by simpa using hi)] at hx
        simp only [List.getElem?_map, Array.getElem?_toList, Array.getElem?_eq_getElem hi, Option.map_some, Option.some.injEq] at hx
        subst hx
        refine ⟨a.eval args[i], ?_, Rep.ev henv _⟩
        simp [Array.toList_append, List.getElem?_append_left, hi]
      · rw [List.getElem?_append_right (by simpa using hi)] at hx
        obtain ⟨u, hu, hh⟩ := hl.2 _ x hx
        refine ⟨u, ?_, hh⟩
        rw [Array.toList_append, List.getElem?_append_right (by simpa using hi)]
        simpa using hu
  · cases hf

section
variable {P : Program} {nid : Nat} {E : Env} {h : AHeap} {w : World} {o : Oper} {a : Act} {env : AEnv}

theorem call_go {fo : Operand} {args : Array Operand} {ats : Array TypeId} {f : FuncId} {caps largs : List AV} {l : AHeap} {rs : List Nat} {R : AV → AHeap → Prop} {Rp : AV → Prop}
    (hw : WOK E h w) (henv : ∀ k, Rep E (env k) (a.tmps.getD k undef)) (hu : E.ch nid = .unborn) (hnid : h nid = none)
    (ho : o.op = .call { callee := .value fo, args, argTypes := ats }) (hf : calleeA env fo = some (f, caps)) (hc : callable P f = true)
    (hcall : ACalls P f rs.length largs l R Rp)
    (hargs : ∀ vs : List Value, RepL E (args.toList.map (ev env) ++ caps) vs → RepL E (renL (look rs nid) largs) vs) (hids : idsLtL rs.length largs)
    (hd : rs.Nodup) (hnm : nid ∉ rs) (hl : ∀ i, i < rs.length → l i ≠ none ∧ h (look rs nid i) = (l i).map (renCk (look rs nid))) (hln : ∀ i, rs.length ≤ i → l i = none) (hlid : ∀ i, idsLtCk rs.length (l i)) :
    OpGo P nid E h w o a (fun x h' => ∃ y l', R y l' ∧ Tidy rs.length y l' ∧ x = ren (look rs nid) y ∧ h' = pushH rs nid l' h) Rp := by
  intro next Q hnext hpan
  obtain ⟨vs, hrun, hrep⟩ := run_call (P := P) (w := w) henv ho hf hc
  have hrep2 := hargs _ hrep
  have inj : ∀ i j, i < rs.length → j < rs.length → i ≠ j → look rs nid i ≠ look rs nid j := by
    intro i j hi hj hij e
    have h1 := inside_look hd hnm (Nat.le_of_lt hi)
    have h2 := inside_look hd hnm (Nat.le_of_lt hj)
    rw [e, h2] at h1
    injection h1 with h1
    exact hij h1.symm
  let E0 := pull (look rs nid) rs.length E
  have hw0 : WOK E0 l w := hw.pull (fun i hi => .inr (hl i hi).2) hln hlid (fun i j hi hj => inj i j (Nat.lt_of_not_le fun h => hi (hln i h)) (Nat.lt_of_not_le fun h => hj (hln j h)))
  have hrl : RepL E0 largs vs.toList := by
    refine ⟨by have := hrep2.1; rw [renL_eq] at this; simpa using this, fun i x hx => ?_⟩
    obtain ⟨v, hv, hr⟩ := hrep2.2 i (ren (look rs nid) x) (by rw [renL_eq]; simp [hx])
    exact ⟨v, hv, hr.pull x rfl ((idsLtL_iff _ _).1 hids x (List.mem_of_getElem? hx))⟩
  have hcalls := hcall E0 w vs hw0 (fun id hid => by simp [E0, pull, Nat.not_lt.2 hid]) hrl
  have hown : ∀ g, own E0 l g → ∃ i, i < rs.length ∧ Ck.owned (h (look rs nid i)) = true ∧ (E.ch (look rs nid i)).block = some g := fun g hg => own_pull (fun i hi => .inr (hl i hi).2) hln hg
  have hown' : ∀ g, own E0 l g → own E h g := fun g hg => let ⟨i, _, h1, h2⟩ := hown g hg; ⟨_, h1, h2⟩
  have hborn : ∀ i, i < rs.length → E.ch (look rs nid i) ≠ .unborn := by
    intro i hi
    have := hw.ck (look rs nid i)
    rw [(hl i hi).2] at this
    cases hli : l i with
    | none => exact absurd hli (hl i hi).1
    | some ck => rw [hli] at this; exact this.born
  -- what the caller sees behind the call
  have back : ∀ (E1 : Env) (l' : AHeap) (w' : World), WOK E1 l' w' → Evol rs.length E0 l w E1 l' w' → (∀ id, rs.length < id → l' id = none) → (∀ id, idsLtCk (rs.length + 1) (l' id)) →
      ∃ E2 : Env, E2.I = E1.I ∧ (∀ i, i ≤ rs.length → E2.ch (look rs nid i) = E1.ch i) ∧ EStep nid E E2 ∧ WOK E2 (pushH rs nid l' h) w' ∧ Moved E h w E2 (pushH rs nid l' h) w' := by
    intro E1 l' w' hw1 hev hno hids1
    let E2 : Env := { I := E1.I, ch := pushCh rs nid E1.ch E.ch }
    have hlook : ∀ i, i ≤ rs.length → E2.ch (look rs nid i) = E1.ch i := fun i hi => by show pushCh rs nid E1.ch E.ch _ = _; unfold pushCh; rw [inside_look hd hnm hi]
    have hst : EStep nid E E2 := by
      refine ⟨hev.I, fun id hid => ?_⟩
      show pushCh rs nid E1.ch E.ch id = _ ∨ _
      cases hin : inside rs nid id with
      | none => left; unfold pushCh; rw [hin]
      | some i =>
        obtain ⟨hi, e⟩ := inside_some hin
        have hi' : i < rs.length := by
          rcases Nat.lt_or_ge i rs.length with h1 | h1
          · exact h1
          · have : i = rs.length := by omega
            subst this
            simp [look] at e
            exact absurd e.symm hid
        have e1 : pushCh rs nid E1.ch E.ch id = E1.ch i := by unfold pushCh; rw [hin]
        have e0 : E0.ch i = E.ch id := by rw [← e]; exact pull_ch hi'
        rcases hev.ch i hi' with h1 | h1
        · left; rw [e1, h1, e0]
        · right; refine ⟨?_, by rw [← e]; exact hborn i hi'⟩
          show pushCh rs nid E1.ch E.ch id = _
          rw [e1, h1]
    have hle := hst.le hu
    have hnotown : ∀ id, inside rs nid id = none → Ck.owned (h id) = true → ∀ g, (E.ch id).block = some g → ¬ own E0 l g := by
      intro id hin ho g hg hg0
      obtain ⟨i, hi, h1, h2⟩ := hown g hg0
      have hne : id ≠ look rs nid i := by
        intro e
        rw [e, inside_look hd hnm (Nat.le_of_lt hi)] at hin
        cases hin
      exact hw.dist id _ g hne ho h1 hg h2
    refine ⟨E2, rfl, hlook, hst, ⟨hw1.imm, fun id => ?_, fun id id' g hij h1 h2 e1 => ?_⟩, ⟨hev.size, fun g hg hn => hev.frame g hg (fun ho => hn (hown' g ho)), fun g ob e => ?_, fun g e => ?_, hev.same⟩⟩
    · show CkOK E2 w' (pushCh rs nid E1.ch E.ch id) (pushH rs nid l' h id)
      unfold pushCh pushH
      cases hin : inside rs nid id with
      | none =>
        simp only []
        have hi := inside_none hin
        refine (hw.ck id).keep hle (fun h1 g e1 => hev.frame g ((hw.ck id).there h1 e1) (hnotown id hin h1 g e1)) (fun h1 g e1 => ?_)
        show E1.I g = none
        cases hI : E1.I g with
        | none => rfl
        | some ob =>
          rcases hev.imm g ob hI with q | q | q
          · have := (hw.ck id).immNone h1 e1
            rw [show E0.I g = E.I g from rfl, this] at q; cases q
          · have := (hw.ck id).there h1 e1; omega
          · exact absurd q (hnotown id hin h1 g e1)
      | some i =>
        simp only []
        obtain ⟨hi, e⟩ := inside_some hin
        have hk := hw1.ck i
        have hidk := hids1 i
        generalize l' i = ck at hk hidk
        match ck, hk with
        | none, _ => trivial
        | some (.box t cells), ⟨g, vs, e1, hg, hs, hcl, hn⟩ =>
          simp only [idsLtCk, idsLtL_iff] at hidk
          refine ⟨g, vs, e1, hg, by rw [renL_eq]; simpa using hs, fun j x hx => ?_, hn⟩
          rw [renL_eq] at hx
          simp only [List.getElem?_map] at hx
          cases hy : cells[j]? with
          | none => rw [hy] at hx; cases hx
          | some y =>
            rw [hy] at hx
            injection hx with hx
            subst hx
            obtain ⟨v, hv, hr⟩ := hcl j y hy
            exact ⟨v, hv, Rep.push (E := E1) (F := E2) (ρ := look rs nid) (m := rs.length + 1) (ILe.refl E1.I) (fun i hi => hlook i (by omega)) hr (hidk y (List.mem_of_getElem? hy))⟩
        | some (.arr e sz rows), ⟨v, e1, ha⟩ => exact ⟨v, e1, ha⟩
        | some (.fz rows), ⟨v, e1, ha⟩ => exact ⟨v, e1, ha⟩
    · replace e1 : (pushCh rs nid E1.ch E.ch id).block = some g := e1
      show (pushCh rs nid E1.ch E.ch id').block ≠ some g
      unfold pushCh pushH at *
      cases hin : inside rs nid id with
      | none =>
        simp only [hin] at h1 e1
        cases hin' : inside rs nid id' with
        | none =>
          simp only [hin'] at h2 ⊢
          exact hw.dist id id' g hij h1 h2 e1
        | some j =>
          simp only [hin', owned_ren] at h2 ⊢
          intro e2
          rcases hev.owned g ⟨j, h2, e2⟩ with q | q
          · have := (hw.ck id).there h1 e1; omega
          · exact hnotown id hin h1 g e1 q
      | some i =>
        simp only [hin, owned_ren] at h1 e1
        cases hin' : inside rs nid id' with
        | none =>
          simp only [hin'] at h2 ⊢
          intro e2
          rcases hev.owned g ⟨i, h1, e1⟩ with q | q
          · have := (hw.ck id').there h2 e2; omega
          · exact hnotown id' hin' h2 g e2 q
        | some j =>
          simp only [hin', owned_ren] at h2 ⊢
          refine hw1.dist i j g (fun e => ?_) h1 h2 e1
          subst e
          have := (inside_some hin).2
          have := (inside_some hin').2
          omega
    · rcases hev.imm g ob e with q | q | q
      · exact .inl q
      · exact .inr (.inl q)
      · exact .inr (.inr (hown' g q))
    · obtain ⟨id, h1, h2⟩ := e
      replace h2 : (pushCh rs nid E1.ch E.ch id).block = some g := h2
      unfold pushCh at h2
      unfold pushH at h1
      cases hin : inside rs nid id with
      | none => simp only [hin] at h1 h2; exact .inr ⟨id, h1, h2⟩
      | some i =>
        simp only [hin, owned_ren] at h1 h2
        rcases hev.owned g ⟨i, h1, h2⟩ with q | q
        · exact .inl q
        · exact .inr (hown' g q)
  unfold Oper.wp
  rw [hrun, Oper.upon_enter]
  refine hcalls.mono fun e w' he => ?_
  rcases he with ⟨v, E1, y, l', rfl, hr, hR, ht, hw1, hev⟩ | ⟨v, E1, y, rfl, hr, hR, hi0, hw1, hev⟩
  · obtain ⟨E2, q1, q2, q3, q4, q5⟩ := back E1 l' w' hw1 hev ht.none ht.ck
    refine hnext v w' E2 _ _ ⟨y, l', hR, ht, rfl, rfl⟩ ?_ q3 q4 q5
    exact hr.push (F := E2) (ρ := look rs nid) (m := rs.length + 1) (by rw [q1]; exact .refl _) (fun i hi => q2 i (by omega)) ht.x
  · obtain ⟨E2, q1, q2, q3, q4, q5⟩ := back E1 (fun _ => none) w' hw1 hev (fun _ _ => rfl) (fun _ => trivial)
    have hI : ILe E1.I E2.I := by rw [q1]; exact .refl _
    refine hpan v w' E2 y _ hR (hr.free hI hi0) hi0 q3 q4 q5 (fun id hid => ?_)
    unfold pushH
    cases hin : inside rs nid id with
    | none => exact hid
    | some i => rfl
end

end Go.Ab

set_option linter.unusedVariables false
set_option linter.unusedSimpArgs false
namespace Go.Ab
open Go

/-! ### Freezing -/

/-- A chunk of the call's own, taken as memory that is never written again. -/
theorem freeze_wok {E : Env} {h : AHeap} {w : World} {id : Nat} {e : TypeId} {sz : Nat} {rows : List (List PV)} (hw : WOK E h w) (hid : h id = some (.arr e sz rows)) :
    ∃ E' : Env, E'.ch = E.ch ∧ ILe E.I E'.I ∧ WOK E' (upd h id (some (.fz rows))) w ∧ ∀ g o, E'.I g = some o → E.I g = some o ∨ (E.ch id).block = some g := by
  have hk := hw.ck id
  rw [hid] at hk
  obtain ⟨v, e1, xs, hown, hlen, hxs, hones, hnone⟩ := hk
  let E' : Env := { I := fun g => if v.ownBlock = some g then w.heap[g]? else E.I g, ch := E.ch }
  have hI : ILe E.I E'.I := by
    intro g o hg
    show (if v.ownBlock = some g then w.heap[g]? else E.I g) = some o
    by_cases e : v.ownBlock = some g
    · rw [hnone g e] at hg; cases hg
    · rw [if_neg e]; exact hg
  have hle : ELe E E' := ⟨hI, fun id => .inr (.inl rfl)⟩
  have hoth : ∀ i g, i ≠ id → Ck.owned (h i) = true → (E.ch i).block = some g → v.ownBlock ≠ some g := by
    intro i g hi ho hg hv
    exact hw.dist i id g hi ho (by rw [hid]; rfl) hg (by rw [e1, ← ownBlock_eq]; exact hv)
  have hw' : WOK E' (upd h id (some (.fz rows))) w := by
    refine ⟨fun g o hg => ?_, fun i => ?_, fun i j g hij h1 h2 e2 => ?_⟩
    · replace hg : (if v.ownBlock = some g then w.heap[g]? else E.I g) = some o := hg
      by_cases e : v.ownBlock = some g
      · rw [if_pos e] at hg; exact hg
      · rw [if_neg e] at hg; exact hw.imm g o hg
    · by_cases e : i = id
      · subst e
        rw [upd_same]
        refine ⟨v, e1, ?_⟩
        rcases hown.2 with ⟨rfl, hn⟩ | ⟨g, cap, cur, rfl, -, hg, hn, -, hcs, htake⟩
        · have : rows = [] := List.eq_nil_of_length_eq_zero hn
          subst this
          exact .nil
        · have hIg : E'.I g = some (Obj.cells cur e (0, 0)) := by
            show (if (Value.slice (some ⟨g, 0, none⟩) rows.length cap).ownBlock = some g then w.heap[g]? else E.I g) = _
            rw [if_pos (by rfl)]; exact hg
          have hcell : ∀ i j, i < rows.length → j < sz → ∃ u, cur[i * sz + j]? = some u ∧ xs[i * sz + j]? = some u := by
            intro i j hi hj
            have hle : i * sz + sz ≤ rows.length * sz := by
              have := Nat.mul_le_mul_right sz (show i + 1 ≤ rows.length by omega)
              rw [Nat.add_mul] at this; omega
            have hlt : i * sz + j < xs.length := by rw [hown.1]; omega
            obtain ⟨u, hu⟩ : ∃ u, xs[i * sz + j]? = some u := ⟨_, List.getElem?_eq_getElem hlt⟩
            refine ⟨u, ?_, hu⟩
            rw [← htake, List.getElem?_take] at hu
            split at hu
            · simpa using hu
            · cases hu
          refine .fro sz rows _ g 0 cap (fun i j => xs.getD (i * sz + j) undef) (fun _ => rfl) hn hlen (fun i j hi hj => ?_) (fun i j hi hj => ?_) (fun i j r x hr hx => ?_)
          · obtain ⟨u, h1, h2⟩ := hcell i j hi hj
            simp only [icell, hIg, Nat.zero_add, Option.isSome_none, Bool.false_eq_true, if_false, List.getD_eq_getElem?_getD, h1, h2, Option.getD_some]
          · obtain ⟨u, h1, h2⟩ := hcell i j hi hj
            simp only [List.getD_eq_getElem?_getD, h2, Option.getD_some]
            exact hones u (List.mem_of_getElem? h2)
          · obtain ⟨u, hu, hr⟩ := hxs i j r x hr hx
            simp only [List.getD_eq_getElem?_getD, hu, Option.getD_some]
            exact hr.mono hI
      · rw [upd_other _ _ e]
        refine (hw.ck i).keep hle (fun _ _ _ => rfl) (fun h1 g e2 => ?_)
        show (if v.ownBlock = some g then w.heap[g]? else E.I g) = none
        rw [if_neg (hoth i g e h1 e2)]
        exact (hw.ck i).immNone h1 e2
    · have aux : ∀ k, Ck.owned (upd h id (some (.fz rows)) k) = true → Ck.owned (h k) = true := by
        intro k hk
        by_cases e : k = id
        · subst e; rw [upd_same] at hk; cases hk
        · rw [upd_other _ _ e] at hk; exact hk
      exact hw.dist i j g hij (aux i h1) (aux j h2) e2
  refine ⟨E', rfl, hI, hw', fun g o hg => ?_⟩
  replace hg : (if v.ownBlock = some g then w.heap[g]? else E.I g) = some o := hg
  by_cases e : v.ownBlock = some g
  · exact .inr (by rw [e1, ← ownBlock_eq]; exact e)
  · rw [if_neg e] at hg; exact .inl hg

theorem fro_of_fz {E : Env} {h : AHeap} {w : World} {v : Value} {id n : Nat} {rows : List (List PV)} (hw : WOK E h w) (hid : h id = some (.fz rows)) (hr : Rep E (.ref id n) v) (hn : rows.length = n) : Rep E (.p (.fro rows)) v := by
  obtain ⟨A, c, e1, -, hd⟩ := hr.ref_inv
  have hk := hw.ck id
  rw [hid] at hk
  obtain ⟨sv, e2, hI⟩ := hk
  rcases hd with hd | hd
  · rw [hd] at e2
    injection e2 with e2
    rw [e1, e2]
    exact .p hI
  · rw [hd] at e2; cases e2


/-- A literal of a slice: its array is never written again. -/
theorem sim_frozen {P : Program} {nid : Nat} {E : Env} {h : AHeap} {w : World} {o : Oper} {a : Act} {e : TypeId} {sz : Nat} {rows : List (List PV)} (hn : h nid = none) (hs : OpSim P nid E h w o a (.ref nid rows.length) (upd h nid (some (.arr e sz rows)))) :
    OpSim P nid E h w o a (.p (.fro rows)) h := by
  obtain ⟨val, w', E1, hrun, hrep, hst, hw1, hmv⟩ := hs
  obtain ⟨E2, hch, hI, hw2, himm⟩ := freeze_wok hw1 (upd_same _ _ _)
  have hle : ELe E1 E2 := ⟨hI, fun id => .inr (.inl (by rw [hch]))⟩
  have hval := fro_of_fz hw2 (upd_same _ _ _) (hrep.mono hle) rfl
  have hother : ∀ i, i ≠ nid → upd (upd h nid (some (.arr e sz rows))) nid (some (.fz rows)) i = h i := fun i hi => by rw [upd_other _ _ hi, upd_other _ _ hi]
  have hno : ∀ i, Ck.owned (h i) = true → i ≠ nid := fun i hi e => by subst e; rw [hn] at hi; cases hi
  refine ⟨val, w', E2, hrun, hval, ⟨hst.I.trans hI, fun id hid => by rw [hch]; exact hst.ch id hid⟩, ⟨hw2.imm, fun i => ?_, fun i j g hij h1 h2 e1 => ?_⟩, ⟨hmv.size, hmv.frame, fun g ob hg => ?_, fun g hg => ?_, hmv.same⟩⟩
  · by_cases ei : i = nid
    · subst ei; rw [hn]; trivial
    · have := hw2.ck i
      rw [hother i ei] at this
      exact this
  · exact hw2.dist i j g hij (by rw [hother i (hno i h1)]; exact h1) (by rw [hother j (hno j h2)]; exact h2) e1
  · rcases himm g ob hg with h1 | h1
    · exact hmv.imm g ob h1
    · rcases hmv.owned g ⟨nid, by rw [upd_same]; rfl, h1⟩ with h2 | h2
      · exact .inr (.inl h2)
      · exact .inr (.inr h2)
  · obtain ⟨i, h1, h2⟩ := hg
    rw [hch] at h2
    exact hmv.owned g ⟨i, by rw [upd_other _ _ (hno i h1)]; exact h1, h2⟩

/-! ### One operation: under which conditions, its value, the heap behind it -/

def takeS (agg : Bool) (size : Nat) (cells : List AV) (off : Nat) : Option (Prop × AV) :=
  if agg then some (off + size ≤ cells.length, .agg ((cells.drop off).take size)) else match cells[off]? with
    | some x => some (True, x)
    | none => none

theorem takeS_spec {agg : Bool} {size off : Nat} {cells : List AV} {s : Prop} {x : AV} (h : takeS agg size cells off = some (s, x)) (hs : s) : takeT agg size cells off = some x := by
  unfold takeS at h
  unfold takeT
  cases agg with
  | true =>
    simp only [if_true, Option.some.injEq, Prod.mk.injEq] at h
    obtain ⟨h1, h2⟩ := h
    subst h1; subst h2
    simp [hs]
  | false =>
    simp only [Bool.false_eq_true, if_false] at h ⊢
    cases hc : cells[off]? with
    | none => rw [hc] at h; cases h
    | some y => rw [hc] at h; simp at h; rw [h.2]

def loadS (h : AHeap) (y : TyF) : AV → Option (Prop × AV)
  | .ptr id off => match h id with
    | some (.box _ cells) => takeS y.agg y.size cells off
    | _ => none
  | .apt id sz i j => match h id with
    | some (.arr _ sz' rows) => match takeS y.agg y.size ((rows.getD i []).map .p) j with
      | some (s, x) => some (sz = sz' ∧ i < rows.length ∧ s, x)
      | none => none
    | some (.fz rows) => match takeS y.agg y.size ((rows.getD i []).map .p) j with
      | some (s, x) => some ((rows.getD i []).length = sz ∧ i < rows.length ∧ s, x)
      | none => none
    | _ => none
  | .rpt row j => takeS y.agg y.size (row.map .p) j
  | _ => none

theorem loadS_spec {h : AHeap} {y : TyF} {a x : AV} {s : Prop} (hl : loadS h y a = some (s, x)) (hs : s) : loadA h y a = some x := by
  unfold loadS at hl
  unfold loadA
  split at hl
  · split at hl
    · rename_i h1; simp only []; rw [h1]; exact takeS_spec hl hs
    · cases hl
  · rename_i id sz i j
    split at hl
    · rename_i e sz' rows h1
      split at hl
      · rename_i s' x' h2
        simp only [Option.some.injEq, Prod.mk.injEq] at hl
        obtain ⟨e1, e2⟩ := hl
        subst e1; subst e2
        obtain ⟨h3, h4, h5⟩ := hs
        simp only []
        rw [h1]
        simp only [h3, if_true, List.getElem?_eq_getElem h4]
        have : rows.getD i [] = rows[i] := by simp [h4]
        rw [this] at h2
        exact takeS_spec h2 h5
      · cases hl
    · rename_i rows h1
      split at hl
      · rename_i s' x' h2
        simp only [Option.some.injEq, Prod.mk.injEq] at hl
        obtain ⟨e1, e2⟩ := hl
        subst e1; subst e2
        obtain ⟨h3, h4, h5⟩ := hs
        simp only []
        rw [h1]
        have : rows.getD i [] = rows[i] := by simp [h4]
        rw [this] at h2 h3
        simp only [List.getElem?_eq_getElem h4, h3, if_true]
        exact takeS_spec h2 h5
      · cases hl
    · cases hl
  · exact takeS_spec hl hs
  · cases hl

def storeS (h : AHeap) (y : TyF) (x v : AV) : Option (Prop × AHeap) :=
  match x, cellsL v with
  | .ptr id off, some cs => match h id with
    | some (.box t cells) => some (cs.length = y.size ∧ off + cs.length ≤ cells.length, upd h id (some (.box t (cells.take off ++ cs ++ cells.drop (off + cs.length)))))
    | _ => none
  | .apt id sz i j, some cs => match h id, pvs cs with
    | some (.arr e sz' rows), some ps =>
      some (i < rows.length ∧ sz = sz' ∧ ps.length = y.size ∧ j + ps.length ≤ (rows.getD i []).length,
        upd h id (some (.arr e sz' (rows.set i ((rows.getD i []).take j ++ ps ++ (rows.getD i []).drop (j + ps.length))))))
    | _, _ => none
  | _, _ => none

theorem storeS_spec {h h' : AHeap} {y : TyF} {x v : AV} {s : Prop} (hl : storeS h y x v = some (s, h')) (hs : s) : storeA h y x v = some h' := by
  unfold storeS at hl
  unfold storeA
  split at hl
  · rename_i id off cs hcs
    split at hl
    · rename_i t cells hid
      simp only [Option.some.injEq, Prod.mk.injEq] at hl
      obtain ⟨e1, e2⟩ := hl
      subst e1; subst e2
      simp only [hcs, hid]
      rw [if_pos hs]
    · cases hl
  · rename_i id sz i j cs hcs
    split at hl
    · rename_i e sz' rows ps hid hps
      simp only [Option.some.injEq, Prod.mk.injEq] at hl
      obtain ⟨e1, e2⟩ := hl
      subst e1; subst e2
      obtain ⟨h1, h2, h3, h4⟩ := hs
      have : rows.getD i [] = rows[i] := by simp [h1]
      simp only [hcs, hid, hps, List.getElem?_eq_getElem h1]
      rw [this] at h4 ⊢
      rw [if_pos ⟨h2, h3, h4⟩]
    · cases hl
  · cases hl

def abinS (op : BinOp) (k : IntKind) (a b : Int) : Option (Prop × Value) :=
  match op with
  | .quo => some (b ≠ 0, .int k (k.wrap (a.tdiv b)))
  | .rem => some (b ≠ 0, .int k (a.tmod b))
  | op => match abin op k a b with
    | some v => some (True, v)
    | none => none

theorem abinS_spec {op : BinOp} {k : IntKind} {a b : Int} {s : Prop} {v : Value} (h : abinS op k a b = some (s, v)) (hs : s) : abin op k a b = some v := by
  unfold abinS at h
  split at h
  · simp only [Option.some.injEq, Prod.mk.injEq] at h; obtain ⟨e1, e2⟩ := h; subst e1; subst e2; simp [abin, hs]
  · simp only [Option.some.injEq, Prod.mk.injEq] at h; obtain ⟨e1, e2⟩ := h; subst e1; subst e2; simp [abin, hs]
  · split at h
    · rename_i h1
      simp only [Option.some.injEq, Prod.mk.injEq] at h
      rw [h1, h.2]
    · cases h

/-- Two operands of one operator. -/
def boolT (P : Program) (t : TypeId) : Bool := match P.underlying t with
  | some .bool => true
  | _ => false
theorem boolT_spec {P : Program} {t : TypeId} (h : boolT P t = true) : P.underlying t = some .bool := by
  unfold boolT at h
  split at h
  · assumption
  · cases h

/-- Two structs of whole numbers: are they the same? -/
def eqIs : List AV → List AV → Option Bool
  | [], [] => some true
  | .p (.sc (.int k a)) :: xs, .p (.sc (.int k' b)) :: ys => match eqIs xs ys with
    | some r => if k = k' then some (decide (a = b) && r) else none
    | none => none
  | _, _ => none

/-- Fields that are whole numbers, from this cell on. -/
def intFs (P : Program) : List Field → Nat → Bool
  | [], _ => true
  | f :: l, i => decide (f.name ≠ "_") && (decide (f.offset = i) && ((match P.underlying f.type with | some (.int _) => true | _ => false) && intFs P l (i + 1)))

def intStruct (P : Program) (t : TypeId) (n : Nat) : Bool := match P.underlying t with
  | some (.struct fs) => !P.stoodInHeld t && (!P.eqGuardType P.depth t && (decide (fs.size = n) && intFs P fs.toList 0))
  | _ => false

def binS (P : Program) (t : TypeId) (op : BinOp) (x y : AV) : Option (Prop × AV) :=
  match x, y with
  | .p (.sc (.int k m)), .p (.sc (.int k' n)) => match op with
    | .shl => some (0 ≤ n ∧ n < k.bits, .p (.sc (.int k (k.wrap (m * 2 ^ n.toNat)))))
    | .shr => some (0 ≤ n ∧ n < k.bits, .p (.sc (.int k (m.fdiv (2 ^ n.toNat)))))
    | op => match abinS op k m n with
      | some (s, v) => some (k = k' ∧ s, cst1 v)
      | none => none
  | .p (.sc (.string a)), .p (.sc (.string b)) => match op with
    | .eql => some (True, .p (.sc (.bool (decide (a = b)))))
    | .neq => some (True, .p (.sc (.bool (decide (a ≠ b)))))
    | _ => none
  | .p (.sc (.bool a)), .p (.sc (.bool b)) => match op with
    | .eql => some (boolT P t = true, .p (.sc (.bool (decide (a = b)))))
    | .neq => some (boolT P t = true, .p (.sc (.bool (decide (a ≠ b)))))
    | _ => none
  | .agg xs, .agg ys => match op, eqIs xs ys with
    | .eql, some r => some (intStruct P t xs.length = true, .p (.sc (.bool r)))
    | .neq, some r => some (intStruct P t xs.length = true, .p (.sc (.bool (!r))))
    | _, _ => none
  | _, _ => none

def bnd (env : AEnv) (d : Nat) : Option Operand → Option (Prop × Nat)
  | none => some (True, d)
  | some x => match ev env x with
    | .p (.sc (.int _ i)) => some (0 ≤ i, i.toNat)
    | _ => none

theorem bnd_spec {env : AEnv} {d n : Nat} {x : Option Operand} {s : Prop} (h : bnd env d x = some (s, n)) (hs : s) : BndIs env d x n := by
  unfold bnd at h
  split at h
  · simp only [Option.some.injEq, Prod.mk.injEq] at h; rw [← h.2]; exact .none
  · split at h
    · rename_i he
      simp only [Option.some.injEq, Prod.mk.injEq] at h; obtain ⟨e1, e2⟩ := h; subst e1; subst e2
      exact .some he hs
    · cases h

def sliceS (P : Program) (env : AEnv) (t : TypeId) (x : AV) (lo hi : Option Operand) : Option (Prop × AV) :=
  match x with
  | .p (.fro rows) => match slE P t with
    | some e => match tyf P e, bnd env 0 lo, bnd env rows.length hi with
      | some y, some (s1, l), some (s2, k) => some (s1 ∧ s2 ∧ l ≤ k ∧ k ≤ rows.length ∧ ∀ r, r ∈ rows → r.length = y.size, .p (.fro ((rows.drop l).take (k - l))))
      | _, _, _ => none
    | none => none
  | .p (.sc (.string s)) => match bnd env 0 lo, bnd env s.size hi with
    | some (s1, l), some (s2, k) => some (strT P t = true ∧ s1 ∧ s2 ∧ l ≤ k ∧ k ≤ s.size, .p (.sc (.string (s.extract l k))))
    | _, _ => none
  | _ => none

def idxS (P : Program) (t : TypeId) (x ix : AV) : Option (Prop × AV) :=
  match ix with
  | .p (.sc (.int _ i)) => match slE P t with
    | some e => match tyf P e with
      | some y => match x with
        | .p (.fro rows) => some ((0 ≤ i ∧ i < rows.length) ∧ (rows.getD i.toNat []).length = y.size, .rpt (rows.getD i.toNat []) 0)
        | .ref id n => some (0 ≤ i ∧ i < n, .apt id y.size i.toNat 0)
        | _ => none
      | none => none
    | none => match arE P t with
      | some (n, e) => match tyf P e with
        | some y => match offA (i.toNat * y.size) x with
          | some r => some (0 ≤ i ∧ i < n, r)
          | none => none
        | none => none
      | none => none
  | _ => none

def indexS (P : Program) (t : TypeId) (x ix : AV) : Option (Prop × AV) :=
  match ix, x with
  | .p (.sc (.int _ i)), .agg xs => match arE P t with
    | some (n, e) => match tyf P e with
      | some y => match takeS y.agg y.size xs (i.toNat * y.size) with
        | some (s, r) => some ((0 ≤ i ∧ i < n) ∧ s, r)
        | none => none
      | none => none
    | none => none
  | _, _ => none

def builtinS (P : Program) (nid : Nat) (env : AEnv) (h : AHeap) (b : Builtin) (args : List Operand) (ats : List TypeId) : Option (Prop × AV × AHeap) :=
  match b, args, ats with
  | .len, [x], [t] => match ev env x with
    | .p (.sc (.string s)) => some (strT P t = true, .p (.sc (.int .i64 s.size)), h)
    | .nil => some ((slE P t).isSome = true, .p (.sc (.int .i64 0)), h)
    | .p (.fro rows) => some ((slE P t).isSome = true, .p (.sc (.int .i64 rows.length)), h)
    | .ref _ n => some ((slE P t).isSome = true, .p (.sc (.int .i64 n)), h)
    | _ => none
  | .min, [x, y], _ => match ev env x, ev env y with
    | .p (.sc (.int k m)), .p (.sc (.int _ n)) => some (True, .p (.sc (.int k (if n < m then n else m))), h)
    | _, _ => none
  | .max, [x, y], _ => match ev env x, ev env y with
    | .p (.sc (.int k m)), .p (.sc (.int _ n)) => some (True, .p (.sc (.int k (if n > m then n else m))), h)
    | _, _ => none
  | .append, [s, x], [t, t'] => match slE P t with
    | some e => match tyf P e, srcRows h (ev env x) with
      | some y, some rows2 => match ev env s with
        | .nil => some (t = t' ∧ y.zero.cells.size = y.size ∧ 0 < y.size ∧ (∀ r, r ∈ rows2 → r.length = y.size) ∧ rows2.length * y.bytes ≤ 140737488355328 ∧ rows2.length ≤ maxLen,
            .ref nid rows2.length, upd h nid (some (.arr e y.size rows2)))
        | .ref id n => match h id with
          | some (.arr e' sz rows) => some (t = t' ∧ e' = e ∧ sz = y.size ∧ rows.length = n ∧ y.zero.cells.size = y.size ∧ 0 < y.size ∧ (∀ r, r ∈ rows2 → r.length = y.size) ∧ (n + rows2.length) * y.bytes ≤ 140737488355328 ∧ n + rows2.length ≤ maxLen,
              .ref nid (n + rows2.length), upd (upd h id none) nid (some (.arr e y.size (rows ++ rows2))))
          | _ => none
        | _ => none
      | _, _ => none
    | none => none
  | _, _, _ => none

def aop (P : Program) (nid : Nat) (env : AEnv) (h : AHeap) : Op → Option (Prop × AV × AHeap)
  | .move x => some (True, ev env x, h)
  | .assign x => some (True, ev env x, h)
  | .pick c a b => match ev env c with
    | .p (.sc (.bool t)) => some (True, if t then ev env a else ev env b, h)
    | _ => none
  | .alloc t => match tyf P t with
    | some y => some (True, .ptr nid 0, upd h nid (some (.box t (y.zero.cells.toList.map cst1))))
    | none => none
  | .box t x => match cellsL (ev env x) with
    | some cs => some (True, .ptr nid 0, upd h nid (some (.box t cs)))
    | none => none
  | .build t parts => match tyf P t, placesT P t with
    | some y, some pl => match afill pl (y.zero.cells.toList.map cst1) (parts.toList.map fun q => (q.1, ev env q.2)) with
      | some cells => some (True, .agg cells, h)
      | none => none
    | _, _ => none
  | .buildSlice t len parts => match slE P t with
    | some e => match tyf P e, rowsOf env 0 parts.toList with
      | some y, some rows => some ((∀ r, r ∈ rows → r.length = y.size) ∧ len = rows.length ∧ len * y.size ≠ 0 ∧ len * y.size ≤ 2 ^ 24, .p (.fro rows), h)
      | _, _ => none
    | none => none
  | .load t x => match tyf P t with
    | some y => match loadS h y (ev env x) with
      | some (s, r) => some (s, r, h)
      | none => none
    | none => none
  | .store t x v => match tyf P t with
    | some y => match storeS h y (ev env x) (ev env v) with
      | some (s, h') => some (s, .any, h')
      | none => none
    | none => none
  | .nilCheck x => if isPtr (ev env x) then some (True, ev env x, h) else none
  | .binOp op t x y _ => match binS P t op (ev env x) (ev env y) with
    | some (s, r) => some (s, r, h)
    | none => none
  | .unOp op _ x => match op, ev env x with
    | .not, .p (.sc (.bool b)) => some (True, .p (.sc (.bool !b)), h)
    | .neg, .p (.sc (.int k n)) => some (True, .p (.sc (.int k (k.wrap (-n)))), h)
    | _, _ => none
  | .convert s d x => match intT P s, intT P d, ev env x with
    | some _, some k, .p (.sc (.int _ n)) => some (True, .p (.sc (.int k (k.wrap n))), h)
    | _, _, _ => none
  | .fieldAddr t x f => match fOff P t f with
    | some (n, _, _) => match offA n (ev env x) with
      | some r => some (True, r, h)
      | none => none
    | none => none
  | .field t x f => match fOff P t f, ev env x with
    | some (n, sz, b), .agg xs => match takeS b sz xs n with
      | some (s, r) => some (s, r, h)
      | none => none
    | _, _ => none
  | .indexAddr t x ix => match idxS P t (ev env x) (ev env ix) with
    | some (s, r) => some (s, r, h)
    | none => none
  | .index t x ix => match indexS P t (ev env x) (ev env ix) with
    | some (s, r) => some (s, r, h)
    | none => none
  | .slice t x lo hi mx => match mx with
    | none => match sliceS P env t (ev env x) lo hi with
      | some (s, r) => some (s, r, h)
      | none => none
    | some _ => none
  | .extract x i => match ev env x with
    | .tup xs => match xs[i]? with
      | some y => some (True, y, h)
      | none => none
    | _ => none
  | .makeFunc fn first caps => match fn, first.toList with
    | .func f, [] => some (True, .fn f (caps.toList.map (ev env)), h)
    | _, _ => none
  | .makeSlice t l c => match slE P t with
    | some e => match tyf P e, ev env l, ev env c with
      | some y, .p (.sc (.int _ n)), .p (.sc (.int _ n')) => match pvs (y.zero.cells.toList.map cst1) with
        | some zs => some (n = n' ∧ 0 ≤ n ∧ y.bytes * n.toNat ≤ 281474976710656 ∧ n.toNat ≤ maxLen ∧ y.zero.cells.size = y.size ∧ y.zero.cells.all (·.oneCell') = true,
            .ref nid n.toNat, upd h nid (some (.arr e y.size (List.replicate n.toNat zs))))
        | none => none
      | _, _, _ => none
    | none => none
  | .call c => match c.callee with
    | .builtin b => builtinS P nid env h b c.args.toList c.argTypes.toList
    | _ => none
  | _ => none

theorem str_eq {a b : ByteArray} : (a.toList == b.toList) = decide (a = b) := by
  have : a.toList = b.toList ↔ a = b := by
    constructor
    · intro h
      have h1 : a.data.toList = b.data.toList := by simpa [ByteArray.toList_eq] using h
      exact ByteArray.ext (Array.ext' h1)
    · intro h; rw [h]
  by_cases h : a = b
  · simp [h]
  · have : a.toList ≠ b.toList := fun e => h (this.1 e)
    simp [h, this]

section
variable {P : Program} {nid : Nat} {E : Env} {h h' : AHeap} {w : World} {o : Oper} {a : Act} {env : AEnv} {s : Prop} {r : AV}

theorem sim_str {op : BinOp} {t t' : TypeId} {x y : Operand} {u v : ByteArray} (hw : WOK E h w) (henv : ∀ k, Rep E (env k) (a.tmps.getD k undef)) (ho : o.op = .binOp op t x y t') (hx : ev env x = .p (.sc (.string u))) (hy : ev env y = .p (.sc (.string v))) :
    (op = .eql → OpSim P nid E h w o a (.p (.sc (.bool (decide (u = v))))) h) ∧ (op = .neq → OpSim P nid E h w o a (.p (.sc (.bool (decide (u ≠ v))))) h) := by
  refine ⟨fun e => ?_, fun e => ?_⟩ <;> subst e
  · refine sim_binOp hw henv ho hx hy (fun cs e => by cases e) (fun e => by cases e) (r := .bool (decide (u = v))) ?_
    simp only [Go.binOp, Op.stringOp, str_eq]
    rfl
  · refine sim_binOp hw henv ho hx hy (fun cs e => by cases e) (fun e => by cases e) (r := .bool (decide (u ≠ v))) ?_
    simp only [Go.binOp, Op.stringOp, str_eq]
    have : (!decide (u = v)) = decide (u ≠ v) := by by_cases h : u = v <;> simp [h]
    rw [this]
    rfl

theorem sim_bool {op : BinOp} {t t' : TypeId} {x y : Operand} {u v : Bool} (hw : WOK E h w) (henv : ∀ k, Rep E (env k) (a.tmps.getD k undef)) (ho : o.op = .binOp op t x y t') (hx : ev env x = .p (.sc (.bool u))) (hy : ev env y = .p (.sc (.bool v))) (ht : P.underlying t = some .bool) :
    (op = .eql → OpSim P nid E h w o a (.p (.sc (.bool (decide (u = v))))) h) ∧ (op = .neq → OpSim P nid E h w o a (.p (.sc (.bool (decide (u ≠ v))))) h) := by
  refine ⟨fun e => ?_, fun e => ?_⟩ <;> subst e
  · refine sim_binOp hw henv ho hx hy (fun cs e => by cases e) (fun e => by cases e) (r := .bool (decide (u = v))) ?_
    simp only [Go.binOp, Sem.run_bind, run_equal_bool w t u v ht, Result.andThen_ok, Sem.run_pure]
    cases u <;> cases v <;> rfl
  · refine sim_binOp hw henv ho hx hy (fun cs e => by cases e) (fun e => by cases e) (r := .bool (decide (u ≠ v))) ?_
    simp only [Go.binOp, Sem.run_bind, run_equal_bool w t u v ht, Result.andThen_ok, Sem.run_pure]
    cases u <;> cases v <;> rfl

theorem run_eqInts {P : Program} {w : World} {d : Nat} {us vs : Array Value} : ∀ (fs : List Field) (i : Nat) (xs ys : List AV) (r : Bool), intFs P fs i = true → fs.length = xs.length → eqIs xs ys = some r →
    (∀ (j : Nat) (k : IntKind) (a : Int), xs[j]? = some (.p (.sc (.int k a))) → us[i + j]? = some (.int k a)) → (∀ (j : Nat) (k : IntKind) (a : Int), ys[j]? = some (.p (.sc (.int k a))) → vs[i + j]? = some (.int k a)) →
    (Op.eqFields (d + 1) us vs fs).run P w = .ok r w
  | [], i, xs, ys, r, _, hl, he, _, _ => by
    have : xs = [] := List.eq_nil_of_length_eq_zero hl.symm
    subst this
    cases ys with
    | nil => injection he with he; subst he; rfl
    | cons y ys => cases he
  | f :: fs, i, xs, ys, r, hf, hl, he, hx, hy => by
    cases xs with
    | nil => cases hl
    | cons x xs =>
      unfold eqIs at he
      split at he
      · cases ‹_ :: _ = []›
      · rename_i k a xs' k' b ys' e1
        injection e1 with e1 e2
        subst e1; subst e2
        split at he
        · rename_i r' hr'
          split at he
          · rename_i hk
            subst hk
            injection he with he
            unfold intFs at hf
            simp only [Bool.and_eq_true, decide_eq_true_eq] at hf
            obtain ⟨h1, h2, h3, h4⟩ := hf
            have hu : ∃ q, P.underlying f.type = some (.int q) := by
              split at h3
              · exact ⟨_, ‹_›⟩
              · cases h3
            obtain ⟨q, hu⟩ := hu
            have hpk : P.plainKey f.type = true := by unfold Program.plainKey; rw [hu]
            have p1 := run_part_plain (P := P) (w := w) hpk (hx 0 k a rfl)
            have p2 := run_part_plain (P := P) (w := w) hpk (hy 0 k b rfl)
            have ih := run_eqInts (P := P) (w := w) (d := d) (us := us) (vs := vs) fs (i + 1) xs ys' r' h4 (by simpa using hl) hr'
              (fun j k a h => by have := hx (j + 1) k a h; rwa [show i + (j + 1) = i + 1 + j by omega] at this) (fun j k a h => by have := hy (j + 1) k a h; rwa [show i + (j + 1) = i + 1 + j by omega] at this)
            rw [Nat.add_zero] at p1 p2
            simp only [Op.eqFields, h1, ne_eq, not_false_eq_true, if_true, Sem.run_bind, h2, p1, p2, Result.andThen_ok, run_equalIn_int w d f.type k q a b hu]
            rw [← he]
            by_cases hab : a = b
            · subst hab
              simp only [beq_self_eq_true, Bool.not_true, Bool.false_eq_true, if_false, decide_true, Bool.true_and]
              exact ih
            · have : (a == b) = false := by simpa using hab
              simp only [this, Bool.not_false, if_true, decide_eq_false hab, Bool.false_and]
              rfl
          · cases he
        · cases he
      · cases he

theorem sim_aggEq {op : BinOp} {t t' : TypeId} {x y : Operand} {xs ys : List AV} {r : Bool} (hw : WOK E h w) (henv : ∀ k, Rep E (env k) (a.tmps.getD k undef)) (ho : o.op = .binOp op t x y t') (hx : ev env x = .agg xs) (hy : ev env y = .agg ys)
    (hr : eqIs xs ys = some r) (hs : intStruct P t xs.length = true) : (op = .eql → OpSim P nid E h w o a (.p (.sc (.bool r))) h) ∧ (op = .neq → OpSim P nid E h w o a (.p (.sc (.bool (!r)))) h) := by
  have hu := Rep.ev henv x
  have hv := Rep.ev henv y
  rw [hx] at hu
  rw [hy] at hv
  generalize e1 : a.eval x = u at hu
  generalize e2 : a.eval y = v at hv
  cases hu with
  | agg us hsu fu hfu hru =>
    cases hv with
    | agg vs hsv fv hfv hrv =>
      unfold intStruct at hs
      split at hs
      · rename_i fs hfs
        simp only [Bool.and_eq_true, Bool.not_eq_true', decide_eq_true_eq] at hs
        obtain ⟨s1, s2, s3, s4⟩ := hs
        have hff : P.fieldsOf t = fs := by unfold Program.fieldsOf; rw [hfs]
        have hrun := run_eqInts (P := P) (w := w) (d := 9998) (us := us) (vs := vs) fs.toList 0 xs ys r s4 (by simpa using s3) hr
          (fun j k z hj => by
            have h1 := hfu j (List.getElem?_eq_some_iff.1 hj).1
            have h2 := (hru j _ hj).sc_inv
            rw [Nat.zero_add, h1, h2])
          (fun j k z hj => by
            have h1 := hfv j (List.getElem?_eq_some_iff.1 hj).1
            have h2 := (hrv j _ hj).sc_inv
            rw [Nat.zero_add, h1, h2])
        have heq : (Op.equalIn 10000 t (.agg us) (.agg vs)).run P w = .ok r w := by
          rw [run_equalIn_struct w 9999 t us vs (by rw [hff]; exact hfs) s1, hff]
          exact hrun
        refine ⟨fun e => ?_, fun e => ?_⟩ <;> subst e
        · refine OpSim.pure hw (val := .bool r) ?_ (.p (.sc _))
          simp [execOp, ho, e1, e2, run_eqGuard_agg w .eql t x y us vs s2, run_eql_struct w t us vs, heq]
        · refine OpSim.pure hw (val := .bool (!r)) ?_ (.p (.sc _))
          simp [execOp, ho, e1, e2, run_eqGuard_agg w .neq t x y us vs s2, run_neq_struct w t us vs, heq]
      · cases hs

theorem aop_sim (hw : WOK E h w) (henv : ∀ k, Rep E (env k) (a.tmps.getD k undef)) (hu : E.ch nid = .unborn) (ha : aop P nid env h o.op = some (s, r, h')) (hs : s) : OpSim P nid E h w o a r h' := by
  generalize hop : o.op = op at ha
  cases op <;> simp only [aop] at ha <;> try (cases ha; done)
  case move x =>
    injection ha with ha; injection ha with h1 h2; injection h2 with h2 h3; subst h2; subst h3
    exact sim_move hw henv (.inl hop)
  case assign x =>
    injection ha with ha; injection ha with h1 h2; injection h2 with h2 h3; subst h2; subst h3
    exact sim_move hw henv (.inr hop)
  case pick c x y =>
    split at ha
    · rename_i t hc
      injection ha with ha; injection ha with h1 h2; injection h2 with h2 h3; subst h2; subst h3
      exact sim_pick hw henv hop hc
    · cases ha
  case alloc t =>
    split at ha
    · rename_i y hy
      injection ha with ha; injection ha with h1 h2; injection h2 with h2 h3; subst h2; subst h3
      exact sim_alloc hw hu hop hy
    · cases ha
  case box t x =>
    split at ha
    · rename_i cs hc
      injection ha with ha; injection ha with h1 h2; injection h2 with h2 h3; subst h2; subst h3
      exact sim_box hw henv hu hop hc
    · cases ha
  case build t parts =>
    split at ha
    · rename_i y pl hy hpl
      split at ha
      · rename_i cells hc
        injection ha with ha; injection ha with h1 h2; injection h2 with h2 h3; subst h2; subst h3
        exact sim_build hw henv hop hy hpl hc
      · cases ha
    · cases ha
  case buildSlice t len parts =>
    split at ha
    · rename_i e he
      split at ha
      · rename_i y rows hy hr
        injection ha with ha; injection ha with h1 h2; injection h2 with h2 h3; subst h1; subst h2; subst h3
        obtain ⟨q1, q2, q3, q4⟩ := hs
        exact sim_frozen (by
          cases hh : h nid with
          | none => rfl
          | some ck => have := hw.ck nid; rw [hh, hu] at this; exact absurd rfl this.born) (sim_buildSlice hw henv hu hop he hy hr q1 q2 q3 q4)
      · cases ha
    · cases ha
  case load t x =>
    split at ha
    · rename_i y hy
      split at ha
      · rename_i s' r' hl
        injection ha with ha; injection ha with h1 h2; injection h2 with h2 h3; subst h1; subst h2; subst h3
        exact sim_load hw henv hop hy (loadS_spec hl hs)
      · cases ha
    · cases ha
  case store t x v =>
    split at ha
    · rename_i y hy
      split at ha
      · rename_i s' r' hl
        injection ha with ha; injection ha with h1 h2; injection h2 with h2 h3; subst h1; subst h2; subst h3
        exact sim_store hw henv hop hy (storeS_spec hl hs)
      · cases ha
    · cases ha
  case nilCheck x =>
    split at ha
    · rename_i hp
      injection ha with ha; injection ha with h1 h2; injection h2 with h2 h3; subst h2; subst h3
      exact sim_nilCheck hw henv hop hp
    · cases ha
  case binOp op t x y t' =>
    split at ha
    · rename_i s' r' hb
      injection ha with ha; injection ha with h1 h2; injection h2 with h2 h3; subst h1; subst h2; subst h3
      unfold binS at hb
      split at hb
      · rename_i k m k' n hx hy
        have e1 := (hx ▸ Rep.ev henv x : Rep E _ _).sc_inv
        have e2 := (hy ▸ Rep.ev henv y : Rep E _ _).sc_inv
        split at hb
        · injection hb with hb; injection hb with h1 h2; subst h1; subst h2
          refine sim_binOp hw henv hop hx hy (fun cs e => by cases e) (fun e => by cases e) (r := .int k (k.wrap (m * 2 ^ n.toNat))) ?_
          have hm : min n.toNat k.bits = n.toNat := Nat.min_eq_left (by omega)
          simp [Go.binOp, Op.shift, Int.not_lt.2 hs.1, hm]
        · injection hb with hb; injection hb with h1 h2; subst h1; subst h2
          refine sim_binOp hw henv hop hx hy (fun cs e => by cases e) (fun e => by cases e) (r := .int k (m.fdiv (2 ^ n.toNat))) ?_
          have hm : min n.toNat k.bits = n.toNat := Nat.min_eq_left (by omega)
          simp [Go.binOp, Op.shift, Int.not_lt.2 hs.1, hm]
        · split at hb
          · rename_i s'' v hab
            injection hb with hb; injection hb with h1 h2; subst h1; subst h2
            obtain ⟨hk, hs⟩ := hs
            subst hk
            exact sim_bin hw henv hop hx hy (abinS_spec hab hs)
          · cases hb
      · rename_i u v hx hy
        have hstr := sim_str (P := P) (nid := nid) (o := o) (t := t) (t' := t') (op := op) hw henv hop hx hy
        split at hb
        · injection hb with hb; injection hb with h1 h2; subst h2; exact hstr.1 rfl
        · injection hb with hb; injection hb with h1 h2; subst h2; exact hstr.2 rfl
        · cases hb
      · rename_i u v hx hy
        have hbl := fun ht => sim_bool (P := P) (nid := nid) (o := o) (t := t) (t' := t') (op := op) hw henv hop hx hy ht
        split at hb
        · injection hb with hb; injection hb with h1 h2; subst h1; subst h2; exact (hbl (boolT_spec hs)).1 rfl
        · injection hb with hb; injection hb with h1 h2; subst h1; subst h2; exact (hbl (boolT_spec hs)).2 rfl
        · cases hb
      · rename_i xs ys hx hy
        have hag := fun r hr hs => sim_aggEq (P := P) (nid := nid) (o := o) (t := t) (t' := t') (op := op) (r := r) hw henv hop hx hy hr hs
        split at hb
        · rename_i r hr
          injection hb with hb; injection hb with h1 h2; subst h1; subst h2; exact (hag r hr hs).1 rfl
        · rename_i r hr
          injection hb with hb; injection hb with h1 h2; subst h1; subst h2; exact (hag r hr hs).2 rfl
        · cases hb
      · cases hb
    · cases ha
  case unOp op t x =>
    split at ha
    · rename_i b hx
      injection ha with ha; injection ha with h1 h2; injection h2 with h2 h3; subst h2; subst h3
      exact sim_not hw henv hop hx
    · rename_i k n hx
      injection ha with ha; injection ha with h1 h2; injection h2 with h2 h3; subst h2; subst h3
      exact sim_neg hw henv hop hx
    · cases ha
  case convert s d x =>
    split at ha
    · rename_i k1 k k2 n h1 h2 hx
      injection ha with ha; injection ha with g1 g2; injection g2 with g2 g3; subst g2; subst g3
      exact sim_convInt hw henv hop h1 h2 hx
    · cases ha
  case fieldAddr t x f =>
    split at ha
    · rename_i n sz b hf
      split at ha
      · rename_i r' ho
        injection ha with ha; injection ha with g1 g2; injection g2 with g2 g3; subst g2; subst g3
        exact sim_fieldAddr hw henv hop hf ho
      · cases ha
    · cases ha
  case field t x f =>
    split at ha
    · rename_i n sz b xs hf hx
      split at ha
      · rename_i s' r' ho
        injection ha with ha; injection ha with g1 g2; injection g2 with g2 g3; subst g1; subst g2; subst g3
        exact sim_field hw henv hop hf hx (takeS_spec ho hs)
      · cases ha
    · cases ha
  case indexAddr t x ix =>
    split at ha
    · rename_i s' r' hi
      injection ha with ha; injection ha with g1 g2; injection g2 with g2 g3; subst g1; subst g2; subst g3
      unfold idxS at hi
      split at hi
      · rename_i k i hix
        split at hi
        · rename_i e he
          split at hi
          · rename_i y hy
            split at hi
            · rename_i rows hx
              injection hi with hi; injection hi with g1 g2; subst g1; subst g2
              obtain ⟨⟨q1, q2⟩, q3⟩ := hs
              have hlt : i.toNat < rows.length := by omega
              have hrow : rows[i.toNat]? = some (rows.getD i.toNat []) := by simp [hlt]
              exact sim_idx_fro hw henv hop he hy hx hix q1 hrow q3
            · rename_i id n hx
              injection hi with hi; injection hi with g1 g2; subst g1; subst g2
              exact sim_idx_ref hw henv hop he hy hx hix hs.1 hs.2
            · cases hi
          · cases hi
        · split at hi
          · rename_i n e he
            split at hi
            · rename_i y hy
              split at hi
              · rename_i r' ho
                injection hi with hi; injection hi with g1 g2; subst g1; subst g2
                exact sim_idx_arr hw henv hop he hy hix hs.1 hs.2 ho
              · cases hi
            · cases hi
          · cases hi
      · cases hi
    · cases ha
  case index t x ix =>
    split at ha
    · rename_i s' r' hi
      injection ha with ha; injection ha with g1 g2; injection g2 with g2 g3; subst g1; subst g2; subst g3
      unfold indexS at hi
      split at hi
      · rename_i k i xs hix hx
        split at hi
        · rename_i n e he
          split at hi
          · rename_i y hy
            split at hi
            · rename_i s' r' ho
              injection hi with hi; injection hi with g1 g2; subst g1; subst g2
              exact sim_index_arr hw henv hop he hy hix hs.1.1 hs.1.2 hx (takeS_spec ho hs.2)
            · cases hi
          · cases hi
        · cases hi
      · cases hi
    · cases ha
  case slice t x lo hi mx =>
    split at ha
    · split at ha
      · rename_i s' r' hsl
        injection ha with ha; injection ha with g1 g2; injection g2 with g2 g3; subst g1; subst g2; subst g3
        unfold sliceS at hsl
        split at hsl
        · rename_i rows hx
          split at hsl
          · rename_i e he
            split at hsl
            · rename_i y s1 l s2 k hy hb1 hb2
              injection hsl with hsl; injection hsl with g1 g2; subst g1; subst g2
              obtain ⟨q1, q2, q3, q4, q5⟩ := hs
              exact sim_slice_fro hw henv hop he hy hx (bnd_spec hb1 q1) (bnd_spec hb2 q2) q3 q4 q5
            · cases hsl
          · cases hsl
        · rename_i str hx
          split at hsl
          · rename_i s1 l s2 k hb1 hb2
            injection hsl with hsl; injection hsl with g1 g2; subst g1; subst g2
            obtain ⟨q0, q1, q2, q3, q4⟩ := hs
            exact sim_slice_str hw henv hop q0 hx (bnd_spec hb1 q1) (bnd_spec hb2 q2) q3 q4
          · cases hsl
        · cases hsl
      · cases ha
    · cases ha
  case extract x i =>
    split at ha
    · rename_i xs hx
      split at ha
      · rename_i y hy
        injection ha with ha; injection ha with g1 g2; injection g2 with g2 g3; subst g2; subst g3
        exact sim_extract hw henv hop hx hy
      · cases ha
    · cases ha
  case makeFunc fn first caps =>
    split at ha
    · rename_i f hfirst
      injection ha with ha; injection ha with g1 g2; injection g2 with g2 g3; subst g2; subst g3
      have : first = #[] := Array.toList_eq_nil_iff.1 hfirst
      subst this
      exact sim_makeFunc hw henv hop
    · cases ha
  case makeSlice t l c =>
    split at ha
    · rename_i e he
      split at ha
      · rename_i y k n k' n' hy hl hc
        split at ha
        · rename_i zs hz
          injection ha with ha; injection ha with g1 g2; injection g2 with g2 g3; subst g1; subst g2; subst g3
          obtain ⟨q0, q1, q2, q3, q4, q5⟩ := hs
          subst q0
          exact sim_makeSlice hw henv hu hop he hy hl hc q1 q2 q3 hz q4 q5
        · cases ha
      · cases ha
    · cases ha
  case call c =>
    obtain ⟨callee, ⟨args⟩, ⟨ats⟩⟩ := c
    cases callee <;> simp only [] at ha <;> try (cases ha; done)
    rename_i b
    unfold builtinS at ha
    split at ha
    · rename_i x t
      have hsl : ∀ n, (slE P t).isSome = true → lenA (ev env x) = some n → (∀ s, ev env x ≠ .p (.sc (.string s))) → OpSim P nid E h w o a (.p (.sc (.int .i64 n))) h := by
        intro n h1 h2 h3
        obtain ⟨e, he⟩ := Option.isSome_iff_exists.1 h1
        have hu := slE_spec he
        exact sim_len hw henv hop (by simp [lenT, hu]) h2 ⟨fun ⟨s, e⟩ => absurd e (h3 s), fun e => by rw [hu] at e; cases e⟩
      split at ha
      · rename_i str hstr
        injection ha with ha; injection ha with g1 g2; injection g2 with g2 g3; subst g1; subst g2; subst g3
        have hu : P.underlying t = some .string := by
          unfold strT at hs
          split at hs
          · assumption
          · cases hs
        exact sim_len hw henv hop (by simp [lenT, hu]) (by rw [hstr]; rfl) ⟨fun _ => hu, fun _ => ⟨str, hstr⟩⟩
      · rename_i hx
        injection ha with ha; injection ha with g1 g2; injection g2 with g2 g3; subst g1; subst g2; subst g3
        exact hsl 0 hs (by rw [hx]; rfl) (fun s e => by rw [hx] at e; cases e)
      · rename_i rows hx
        injection ha with ha; injection ha with g1 g2; injection g2 with g2 g3; subst g1; subst g2; subst g3
        exact hsl _ hs (by rw [hx]; rfl) (fun s e => by rw [hx] at e; cases e)
      · rename_i id n hx
        injection ha with ha; injection ha with g1 g2; injection g2 with g2 g3; subst g1; subst g2; subst g3
        exact hsl _ hs (by rw [hx]; rfl) (fun s e => by rw [hx] at e; cases e)
      · cases ha
    · rename_i x y hats
      split at ha
      · rename_i k m k' n hx hy
        injection ha with ha; injection ha with g1 g2; injection g2 with g2 g3; subst g2; subst g3
        exact sim_min' hw henv hop hx hy
      · cases ha
    · rename_i x y hats
      split at ha
      · rename_i k m k' n hx hy
        injection ha with ha; injection ha with g1 g2; injection g2 with g2 g3; subst g2; subst g3
        exact sim_max' hw henv hop hx hy
      · cases ha
    · rename_i sx x t t'
      split at ha
      · rename_i e he
        split at ha
        · rename_i y rows2 hy hr2
          split at ha
          · rename_i hsx
            injection ha with ha; injection ha with g1 g2; injection g2 with g2 g3; subst g1; subst g2; subst g3
            obtain ⟨q0, q1, q2, q3, q4, q5⟩ := hs
            subst q0
            exact sim_append_nil hw henv hu hop he hy q1 q2 hsx hr2 q3 q4 q5
          · rename_i id n hsx
            split at ha
            · rename_i e' sz rows hid
              injection ha with ha; injection ha with g1 g2; injection g2 with g2 g3; subst g1; subst g2; subst g3
              obtain ⟨q0, q01, q02, q03, q1, q2, q3, q4, q5⟩ := hs
              subst q0; subst q01; subst q02
              exact sim_append hw henv hu hop he hy q1 q2 hsx hid q03 hr2 q3 q4 q5
            · cases ha
          · cases ha
        · cases ha
      · cases ha
    · cases ha
end

end Go.Ab

set_option linter.unusedVariables false
set_option linter.unusedSimpArgs false
namespace Go.Ab
open Go

/-! ### A region, operation by operation, in the order of the text -/

structure SOp where
  dst : Option Tmp
  op : Op
  guard : Option (Nat × Bool)

def strip (ops : List Oper) : List SOp := ops.map fun o => ⟨o.dst, o.op, o.guard⟩

def putE (env : AEnv) (d : Option Tmp) (x : AV) : AEnv :=
  match d with
  | some d => upd env d x
  | none => env

def yldV (want : Bool) : AV → Option Bool
  | .p (.sc (.bool b)) => some b
  | .p (.sc (.tuple _)) => some (!want)
  | _ => none

def yld (ds : List (Option Tmp)) (env : AEnv) (j : Nat) (want : Bool) : Option Bool :=
  match ds[j]? with
  | some (some d) => yldV want (env d)
  | _ => none

theorem yldV_bool (want b : Bool) : yldV want (.p (.sc (.bool b))) = some b := rfl
theorem yldV_tuple (want : Bool) (vs : Array Value) : yldV want (.p (.sc (.tuple vs))) = some (!want) := rfl

def isCall : Op → Bool
  | .move _ | .assign _ | .pick _ _ _ | .alloc _ | .box _ _ | .build _ _ | .buildSlice _ _ _ | .insert _ _ _ _ | .load _ _ | .store _ _ _ | .ready _ | .waits _ | .nilCheck _ | .binOp _ _ _ _ _ | .unOp _ _ _
  | .convert _ _ _ | .sliceToArrayPointer _ _ | .makeInterface _ _ | .makeFunc _ _ _ | .makeMap _ _ | .makeChan _ _ | .makeSlice _ _ _ | .slice _ _ _ _ _ | .fieldAddr _ _ _ | .field _ _ _ | .indexAddr _ _ _ | .index _ _ _
  | .lookup _ _ _ _ | .mapUpdate _ _ _ _ | .mapEntry _ _ _ | .entryStore _ _ _ _ | .range _ _ | .next _ _ | .entry _ | .typeAssert _ _ _ _ | .extract _ _ | .go _ | .defer _ | .send _ _ | .recv _ _ _ | .select _ _ => false
  | .call { callee := .builtin _, .. } => false
  | .call { callee := .value _, .. } => true
  | .call { callee := .invoke _ _, .. } => false
  | .panic _ => true

/-- One call of a function by its contract. -/
def CallK (P : Program) (f : FuncId) (args : List AV) (nid : Nat) (h : AHeap) (K : AV → AHeap → Prop) (Kp : AV → Prop) : Prop :=
  callable P f = true ∧ ∃ (rs : List Nat) (largs : List AV) (l : AHeap) (R : AV → AHeap → Prop) (Rp : AV → Prop),
    ACalls P f rs.length largs l R Rp ∧ (∀ (E : Env) (vs : List Value), RepL E args vs → RepL E (renL (look rs nid) largs) vs) ∧ idsLtL rs.length largs ∧ rs.Nodup ∧ nid ∉ rs ∧
    (∀ i, i < rs.length → l i ≠ none ∧ h (look rs nid i) = (l i).map (renCk (look rs nid))) ∧ (∀ i, rs.length ≤ i → l i = none) ∧ (∀ i, idsLtCk rs.length (l i)) ∧
    (∀ y l', R y l' → Tidy rs.length y l' → K (ren (look rs nid) y) (pushH rs nid l' h)) ∧ ∀ x, Rp x → Kp x

def exec1 (P : Program) (nid : Nat) (env : AEnv) (h : AHeap) (op : Op) (K : AV → AHeap → Prop) (Kp : AV → Prop) : Prop :=
  match op with
  | .call { callee := .value fo, args, .. } => match calleeA env fo with
    | some (f, caps) => CallK P f (args.toList.map (ev env) ++ caps) nid h K Kp
    | none => False
  | .panic x => match ev env x with
    | .p (.sc (.iface t v)) => Kp (.p (.sc (.iface t v)))
    | _ => False
  | op => match aop P nid env h op with
    | some (s, x, h') => s ∧ K x h'
    | none => False

def regK (P : Program) (ds : List (Option Tmp)) (K : AEnv → AHeap → Prop) (Kp : AV → Prop) : Nat → List SOp → AEnv → AHeap → Prop
  | _, [], env, h => K env h
  | nid, o :: l, env, h => match o.guard with
    | none => exec1 P nid env h o.op (fun x h' => regK P ds K Kp (nid + 1) l (putE env o.dst x) h') Kp
    | some (j, want) => match yld ds env j want with
      | some b => (b = want → exec1 P nid env h o.op (fun x h' => regK P ds K Kp (nid + 1) l (putE env o.dst x) h') Kp) ∧
          (b ≠ want → regK P ds K Kp (nid + 1) l (putE env o.dst (.p (.sc (.tuple #[])))) h)
      | none => False

/-- What binds an abstract state to a frame and a world. -/
structure Sim (nt : Nat) (E : Env) (env : AEnv) (h : AHeap) (nb : Nat) (a : Act) (w : World) : Prop where
  ok : WOK E h w
  env : ∀ k, Rep E (env k) (a.tmps.getD k undef)
  fresh : ∀ id, nb ≤ id → E.ch id = .unborn
  size : a.tmps.size = nt
  defers : a.defers = []

theorem put_env {E E' : Env} {env : AEnv} {a : Act} {d : Option Tmp} {x : AV} {v : Value} (hE : ELe E E') (h : ∀ k, Rep E (env k) (a.tmps.getD k undef)) (hx : Rep E' x v) (hd : ∀ t, d = some t → t < a.tmps.size) :
    ∀ k, Rep E' (putE env d x k) ((a.put d v).tmps.getD k undef) := by
  intro k
  cases d with
  | none => exact (h k).mono hE
  | some d =>
    have hlt := hd d rfl
    show Rep E' (upd env d x k) ((a.tmps.setIfInBounds d v).getD k undef)
    by_cases e : k = d
    · subst e
      rw [upd_same]
      simpa [hlt] using hx
    · rw [upd_other _ _ e]
      have : (a.tmps.setIfInBounds d v).getD k undef = a.tmps.getD k undef := by
        simp [Array.getD_eq_getD_getElem?, Array.getElem?_setIfInBounds, Ne.symm e]
      rw [this]
      exact (h k).mono hE

theorem put_size (a : Act) (d : Option Tmp) (v : Value) : (a.put d v).tmps.size = a.tmps.size := by cases d <;> simp [Act.put]
theorem put_defers (a : Act) (d : Option Tmp) (v : Value) : (a.put d v).defers = a.defers := by cases d <;> rfl

def regOK (nt : Nat) (ops : List Oper) : Bool := ops.all fun o => match o.dst with
  | some d => decide (d < nt)
  | none => true

theorem yld_spec {E : Env} {env : AEnv} {a : Act} {ops : Array Oper} {j : Nat} {b want : Bool} {nt : Nat} (henv : ∀ k, Rep E (env k) (a.tmps.getD k undef)) (hs : a.tmps.size = nt) (hreg : regOK nt ops.toList = true)
    (h : yld (ops.toList.map (·.dst)) env j want = some b) : (yielded ops a.tmps j == some want) = (b == want) := by
  unfold yld at h
  split at h
  · rename_i d hd
    simp only [List.getElem?_map, Array.getElem?_toList] at hd
    cases ho : ops[j]? with
    | none => rw [ho] at hd; cases hd
    | some o =>
      rw [ho] at hd
      simp only [Option.map_some, Option.some.injEq] at hd
      have hmem : o ∈ ops.toList := by simpa using Array.mem_of_getElem? ho
      have hdl : (match o.dst with | some d => decide (d < nt) | none => true) = true := List.all_eq_true.1 hreg o hmem
      rw [hd] at hdl
      have hdl := of_decide_eq_true hdl
      have hlt : d < a.tmps.size := by rw [hs]; exact hdl
      have hr := henv d
      have hv2 : ∀ v, env d = .p (.sc v) → a.tmps[d]? = some v := fun v hb => by
        rw [hb] at hr
        have hv := hr.sc_inv
        rw [Array.getElem?_eq_getElem hlt]
        congr 1
        simpa [hlt] using hv
      unfold yielded
      rw [ho]
      simp only [Option.bind_some, hd]
      unfold yldV at h
      split at h
      · rename_i b' hb
        injection h with h
        subst h
        rw [hv2 _ hb]
        cases b' <;> cases want <;> rfl
      · rename_i vs hb
        injection h with h
        subst h
        rw [hv2 _ hb]
        cases want <;> rfl
      · cases h
  · cases h

section
variable {P : Program}

theorem exec1_go {nid : Nat} {E : Env} {h : AHeap} {w : World} {o : Oper} {a : Act} {env : AEnv} {K : AV → AHeap → Prop} {Kp : AV → Prop} (hw : WOK E h w) (henv : ∀ k, Rep E (env k) (a.tmps.getD k undef)) (hu : E.ch nid = .unborn)
    (hx : exec1 P nid env h o.op K Kp) : OpGo P nid E h w o a K Kp := by
  have hnid : h nid = none := by
    cases hh : h nid with
    | none => rfl
    | some ck => have := hw.ck nid; rw [hh, hu] at this; exact absurd rfl this.born
  unfold exec1 at hx
  split at hx
  · rename_i fo args ats hop
    split at hx
    · rename_i f caps hf
      obtain ⟨hc, rs, largs, l, R, Rp, h1, h2, h3, h4, h5, h6, h7, h8, h9, h10⟩ := hx
      have := call_go (P := P) (nid := nid) (a := a) hw henv hu hnid hop hf hc h1 (fun vs hv => h2 E vs hv) h3 h4 h5 h6 h7 h8
      intro next Q hn hp
      refine this next Q (fun val w' E' x h' hk => ?_) (fun v w' E' x h' hk => ?_)
      · obtain ⟨y, l', g1, g2, rfl, rfl⟩ := hk
        exact hn val w' E' _ _ (h9 y l' g1 g2)
      · exact hp v w' E' x h' (h10 x hk)
    · exact hx.elim
  · rename_i x hop
    split at hx
    · rename_i t v he
      have hv := Rep.ev henv x
      rw [he] at hv
      have e1 := hv.sc_inv
      intro next Q hn hp
      have := hp (.iface t v) w E _ h hx (.p (.sc _)) trivial (.refl _ _) hw (.refl _ _ _) (fun _ hid => hid)
      unfold Oper.wp
      have hrun : (execOp a.eval o).run P w = .halt (.panic (.iface t v)) w := by
        simp [execOp, hop, e1, Instr.panic]
      rw [hrun]
      exact this
    · exact hx.elim
  · split at hx
    · rename_i s x h' ha
      exact (aop_sim hw henv hu ha hx.1).go hx.2
    · exact hx.elim

theorem reg_wp {ops : Array Oper} {nt m : Nat} {K : AEnv → AHeap → Prop} {Kp : AV → Prop} (hreg : regOK nt ops.toList = true) : ∀ (l : List Nat) (sl : List SOp) (nid : Nat) (E : Env) (env : AEnv) (h : AHeap) (a : Act) (w : World),
    (∀ (k i : Nat), l[k]? = some i → ∃ o : Oper, ops[i]? = some o ∧ sl[k]? = some (SOp.mk o.dst o.op o.guard)) → l.length = sl.length → m ≤ nid → Sim nt E env h nid a w → regK P (ops.toList.map (·.dst)) K Kp nid sl env h →
    ∀ Q : Exit → Act → World → Prop,
      (∀ E' env' h' a' w', K env' h' → Sim nt E' env' h' (nid + sl.length) a' w' → Evol m E h w E' h' w' → Q .normal a' w') →
      (∀ E' env' h' nb' a' w' v x, Kp x → Rep E' x v → idsLt 0 x → Sim nt E' env' h' nb' a' w' → Evol m E h w E' h' w' → Q (.panic (pan v)) a' w') →
      wpOps P ops Q l a w
  | [], sl, nid, E, env, h, a, w, hl, hlen, hm, hs, hk, Q, hn, hp => by
    have : sl = [] := List.eq_nil_of_length_eq_zero (by simpa using hlen.symm)
    subst this
    exact hn E env h a w hk hs (.refl _ _ _ _)
  | i :: l, sl, nid, E, env, h, a, w, hl, hlen, hm, hs, hk, Q, hn, hp => by
    match sl, hlen with
    | so :: sl, hlen =>
      obtain ⟨o, ho, hso⟩ := hl 0 i rfl
      simp at hso
      subst hso
      have hmem : o ∈ ops.toList := by simpa using Array.mem_of_getElem? ho
      have hdst : ∀ t, o.dst = some t → t < a.tmps.size := by
        intro t ht
        have := List.all_eq_true.1 hreg o hmem
        rw [ht] at this
        rw [hs.size]
        simpa using this
      have hl' : ∀ (k i : Nat), l[k]? = some i → ∃ o : Oper, ops[i]? = some o ∧ sl[k]? = some (SOp.mk o.dst o.op o.guard) := fun k i hk => by
        obtain ⟨o', h1, h2⟩ := hl (k + 1) i (by simpa using hk)
        exact ⟨o', h1, by simpa using h2⟩
      have hlen' : l.length = sl.length := by simpa using hlen
      have exec : exec1 P nid env h o.op (fun x h' => regK P (ops.toList.map (·.dst)) K Kp (nid + 1) sl (putE env o.dst x) h') Kp → o.wp P a w (wpOps P ops Q l) Q := by
        intro hx
        refine exec1_go hs.ok hs.env (hs.fresh nid (Nat.le_refl _)) hx (wpOps P ops Q l) Q (fun val w' E' x h' hk h1 h2 h3 h4 => ?_) (fun v w' E' x h' hk h1 h2 h3 h4 h5 h6 => ?_)
        · have hle := h2.le (hs.fresh nid (Nat.le_refl _))
          have hev := h4.evol h2 hm
          refine reg_wp hreg l sl (nid + 1) E' _ h' _ w' hl' hlen' (by omega) ⟨h3, put_env hle hs.env h1 hdst, fun id hid => ?_, by rw [put_size]; exact hs.size, by rw [put_defers]; exact hs.defers⟩ hk Q
            (fun E2 env2 h2' a2 w2 g1 g2 g3 => hn E2 env2 h2' a2 w2 g1 (by rw [show nid + 1 + sl.length = nid + (sl.length + 1) by omega] at g2; exact g2) (hev.trans g3))
            (fun E2 env2 h2' nb2 a2 w2 v x g1 g2 g3 g4 g5 => hp E2 env2 h2' nb2 a2 w2 v x g1 g2 g3 g4 (hev.trans g5))
          rcases h2.ch id (by omega) with e | ⟨_, e⟩
          · rw [e]; exact hs.fresh id (by omega)
          · exact absurd (hs.fresh id (by omega)) e
        · have hle := h3.le (hs.fresh nid (Nat.le_refl _))
          refine hp E' env h' (nid + 1) a w' v x hk h1 h2 ⟨h4, fun k => (hs.env k).mono hle, fun id hid => ?_, hs.size, hs.defers⟩ (h5.evol h3 hm)
          rcases h3.ch id (by omega) with e | ⟨_, e⟩
          · rw [e]; exact hs.fresh id (by omega)
          · exact absurd (hs.fresh id (by omega)) e
      simp only [wpOps, ho]
      simp only [regK] at hk
      cases hg : o.guard with
      | none =>
        rw [hg] at hk
        have hw : Region.wanted o (yielded ops a.tmps) = true := by simp [Region.wanted, hg]
        rw [if_pos hw]
        exact .inl (exec hk)
      | some jw =>
        obtain ⟨j, want⟩ := jw
        rw [hg] at hk
        simp only [] at hk
        split at hk
        · rename_i b hb
          have hy := yld_spec hs.env hs.size hreg hb
          by_cases e : b = want
          · have hw : Region.wanted o (yielded ops a.tmps) = true := by simp only [Region.wanted, hg, hy, e, beq_self_eq_true, beq_iff_eq, not_false_eq_true]
            rw [if_pos hw]
            exact .inl (exec (hk.1 e))
          · have hw : ¬ Region.wanted o (yielded ops a.tmps) = true := by simp only [Region.wanted, hg, hy, e, beq_self_eq_true, beq_iff_eq, not_false_eq_true]
            rw [if_neg hw]
            refine reg_wp hreg l sl (nid + 1) E _ h _ w hl' hlen' (by omega) ⟨hs.ok, put_env (.refl _) hs.env (.p (.sc _)) hdst, fun id hid => hs.fresh id (by omega), by rw [put_size]; exact hs.size, by rw [put_defers]; exact hs.defers⟩ (hk.2 e) Q
              (fun E2 env2 h2' a2 w2 g1 g2 g3 => hn E2 env2 h2' a2 w2 g1 (by rw [show nid + 1 + sl.length = nid + (sl.length + 1) by omega] at g2; exact g2) g3) hp
        · exact hk.elim

end

/-! ### Code -/

theorem wp_loop_ix {P : Program} {c : Code} {Q : Exit → Act → World → Prop} {ι : Type} (I : ι → Act → World → Prop) (μ : ι → Nat)
    (round : ∀ i a w, I i a w → c.wp P (Exit.then (fun a' w' => ∃ j, I j a' w' ∧ μ j < μ i) Q) a w) : ∀ i a w, I i a w → (Code.loop c).wp P Q a w := by
  intro i a w h₀ b k cs
  have key : ∀ n i a w, μ i = n → I i a w → ∃ e a' w', Q e a' w' ∧ Arrives P (lone (b.at a (.code c :: .inLoop c :: k)) cs w) b k cs e a' w' := by
    intro n
    induction n using Nat.strongRecOn with
    | _ n ih =>
      intro i a w hn hI
      obtain ⟨e, a₁, w₁, hq, harr⟩ := round i a w hI b (.inLoop c :: k) cs
      cases e with
      | normal =>
        obtain ⟨j, hI₁, hlt⟩ := hq
        obtain ⟨e₂, a₂, w₂, hq₂, harr₂⟩ := ih (μ j) (hn ▸ hlt) j a₁ w₁ rfl hI₁
        exact ⟨e₂, a₂, w₂, hq₂, .of_steps (Steps.trans harr (.one step_inLoop)) harr₂⟩
      | exit id => exact ⟨_, a₁, w₁, hq, .pass (x := .inLoop c) rfl (fun _ _ => .inl (by simp)) harr⟩
      | goto l => exact ⟨_, a₁, w₁, hq, .pass (x := .inLoop c) rfl (fun _ _ => .inl (by simp)) harr⟩
      | ret => exact ⟨_, a₁, w₁, hq, .pass (x := .inLoop c) rfl (fun _ _ => .inl (by simp)) harr⟩
      | panic ch => exact ⟨_, a₁, w₁, hq, .pass (x := .inLoop c) rfl (fun _ _ => .inl (by simp)) harr⟩
      | outgrown => exact ⟨_, a₁, w₁, hq, .pass (x := .inLoop c) rfl (fun _ _ => .inl (by simp)) harr⟩
  obtain ⟨e, a', w', hq, harr⟩ := key _ i a w rfl h₀
  exact ⟨e, a', w', hq, .of_steps (.one step_loop) harr⟩


inductive AX where
  | normal
  | exit (id : Nat)
  | ret
  | panic (x : AV)

def EM (E : Env) : AX → Exit → Prop
  | .normal, .normal => True
  | .exit id, .exit id' => id = id'
  | .ret, .ret => True
  | .panic x, .panic chain => ∃ v, chain = pan v ∧ Rep E x v ∧ idsLt 0 x
  | _, _ => False

abbrev AQ := AX → AEnv → AHeap → Nat → Prop

def ACode (P : Program) (nt m : Nat) (c : Code) (env : AEnv) (h : AHeap) (nb : Nat) (Q : AQ) : Prop :=
  ∀ (E : Env) (a : Act) (w : World), Sim nt E env h nb a w → m ≤ nb →
    c.wp P (fun e a' w' => ∃ E' x env' h' nb', Q x env' h' nb' ∧ m ≤ nb' ∧ EM E' x e ∧ Sim nt E' env' h' nb' a' w' ∧ Evol m E h w E' h' w') a w

def thenA (K : AEnv → AHeap → Nat → Prop) (Q : AQ) : AQ
  | .normal, env, h, nb => K env h nb
  | x, env, h, nb => Q x env h nb

def blockA (id : Nat) (Q : AQ) : AQ
  | .exit id', env, h, nb => if id' = id then Q .normal env h nb else Q (.exit id') env h nb
  | x, env, h, nb => Q x env h nb

section
variable {P : Program} {nt m nb : Nat} {env : AEnv} {h : AHeap} {Q : AQ}

theorem EM.mono {E E' : Env} {x : AX} {e : Exit} (h : EM E x e) (hI : ILe E.I E'.I) : EM E' x e := by
  cases x <;> cases e <;> first | exact h | exact h.elim | skip
  obtain ⟨v, h1, h2, h3⟩ := h
  exact ⟨v, h1, h2.free hI h3, h3⟩

theorem ACode.mono {c : Code} {Q' : AQ} (hc : ACode P nt m c env h nb Q) (hq : ∀ x env h nb, Q x env h nb → Q' x env h nb) : ACode P nt m c env h nb Q' := by
  intro E a w hs hm
  refine wp_mono (hc E a w hs hm) fun e a' w' ⟨E', x, env', h', nb', h1, h2⟩ => ⟨E', x, env', h', nb', hq _ _ _ _ h1, h2⟩

theorem c_skip (hq : Q .normal env h nb) : ACode P nt m .skip env h nb Q := fun E a w hs hm => wp_skip ⟨E, .normal, env, h, nb, hq, hm, trivial, hs, .refl _ _ _ _⟩
theorem c_exit {id : Nat} (hq : Q (.exit id) env h nb) : ACode P nt m (.exit id) env h nb Q := fun E a w hs hm => wp_exit ⟨E, .exit id, env, h, nb, hq, hm, rfl, hs, .refl _ _ _ _⟩
theorem c_ret (hq : Q .ret env h nb) : ACode P nt m .ret env h nb Q := fun E a w hs hm => wp_ret ⟨E, .ret, env, h, nb, hq, hm, trivial, hs, .refl _ _ _ _⟩
theorem c_label {l : Nat} (hq : Q .normal env h nb) : ACode P nt m (.label l) env h nb Q := fun E a w hs hm => wp_label ⟨E, .normal, env, h, nb, hq, hm, trivial, hs, .refl _ _ _ _⟩

theorem c_seq {x y : Code} (hx : ∀ K : AEnv → AHeap → Nat → Prop, (∀ env h nb, ACode P nt m y env h nb Q → K env h nb) → ACode P nt m x env h nb (thenA K Q)) : ACode P nt m (.seq x y) env h nb Q := by
  intro E a w hs hm
  refine wp_seq (wp_mono (hx (fun env h nb => ACode P nt m y env h nb Q) (fun _ _ _ h => h) E a w hs hm) fun e a' w' hq => ?_)
  obtain ⟨E', ax, env', h', nb', h1, h2, h3, h4, h5⟩ := hq
  cases e <;> cases ax <;> simp only [EM] at h3 <;> try exact h3.elim
  · show Code.wp P y _ a' w'
    refine wp_mono (h1 E' a' w' h4 h2) fun e2 a2 w2 ⟨E2, x2, env2, h2', nb2, g1, g2, g3, g4, g5⟩ => ⟨E2, x2, env2, h2', nb2, g1, g2, g3, g4, h5.trans g5⟩
  · exact ⟨E', _, env', h', nb', h1, h2, h3, h4, h5⟩
  · exact ⟨E', _, env', h', nb', h1, h2, trivial, h4, h5⟩
  · exact ⟨E', _, env', h', nb', h1, h2, h3, h4, h5⟩

theorem c_block {id : Nat} {c : Code} (hc : ACode P nt m c env h nb (blockA id Q)) : ACode P nt m (.block id c) env h nb Q := by
  intro E a w hs hm
  refine wp_block (wp_mono (hc E a w hs hm) fun e a' w' hq => ?_)
  obtain ⟨E', ax, env', h', nb', h1, h2, h3, h4, h5⟩ := hq
  cases e <;> cases ax <;> simp only [EM] at h3 <;> try exact h3.elim
  · exact ⟨E', _, env', h', nb', h1, h2, trivial, h4, h5⟩
  · subst h3
    rename_i id'
    by_cases e : id' = id
    · simp only [blockA, e, if_true] at h1
      simp only [Exit.inBlock, e, if_true]
      exact ⟨E', _, env', h', nb', h1, h2, trivial, h4, h5⟩
    · simp only [blockA, e, if_false] at h1
      simp only [Exit.inBlock, e, if_false]
      exact ⟨E', _, env', h', nb', h1, h2, rfl, h4, h5⟩
  · exact ⟨E', _, env', h', nb', h1, h2, trivial, h4, h5⟩
  · exact ⟨E', _, env', h', nb', h1, h2, h3, h4, h5⟩

theorem c_scope {c : Code} (hc : ACode P nt m c env h nb Q) : ACode P nt m (.scope c) env h nb Q := by
  intro E a w hs hm
  refine wp_scope_straight (wp_mono (hc E a w hs hm) fun e a' w' hq => ?_)
  cases e with
  | goto l => obtain ⟨E', ax, env', h', nb', h1, h2, h3, h4, h5⟩ := hq; cases ax <;> simp only [EM] at h3
  | _ => exact hq

theorem c_cond {c : Operand} {x y : Code} {b : Bool} (hc : ev env c = .p (.sc (.bool b))) (ht : b = true → ACode P nt m x env h nb Q) (hf : b = false → ACode P nt m y env h nb Q) : ACode P nt m (.cond c x y) env h nb Q := by
  intro E a w hs hm
  have hr := Rep.ev hs.env c
  rw [hc] at hr
  refine wp_cond_split hr.sc_inv (fun e => ht e E a w hs hm) (fun e => hf e E a w hs hm)

theorem c_region {id : Nat} {ops : Array Oper} (hreg : regOK nt ops.toList = true)
    (hk : regK P (ops.toList.map (·.dst)) (fun env h => Q .normal env h (nb + ops.size)) (fun x => ∀ env h nb, Q (.panic x) env h nb) nb (strip ops.toList) env h) : ACode P nt m (.region id ops false) env h nb Q := by
  intro E a w hs hm
  refine wp_region ?_
  refine reg_wp hreg (List.range ops.size) (strip ops.toList) nb E env h a w (fun k i hk => ?_) (by simp [strip]) hm hs hk _ (fun E' env' h' a' w' h1 h2 h3 => ⟨E', .normal, env', h', _, h1, by omega, trivial, by simpa [strip] using h2, h3⟩)
    (fun E' env' h' nb' a' w' v x h1 h2 h3 h4 h5 => ?_)
  · have hkl := (List.getElem?_eq_some_iff.1 hk).1
    have : i = k := by simpa using ((List.getElem?_eq_some_iff.1 hk).2).symm
    subst this
    have hlt : i < ops.size := by simpa using hkl
    exact ⟨ops[i], by simp [hlt], by simp [strip, hlt]⟩
  · have hmm : Sim nt E' env' h' (max nb' m) a' w' := ⟨h4.ok, h4.env, fun id hid => h4.fresh id (by omega), h4.size, h4.defers⟩
    exact ⟨E', .panic x, env', h', max nb' m, h1 _ _ _, by omega, ⟨v, rfl, h2, h3⟩, hmm, h5⟩

theorem c_loop {c : Code} {ι : Type} (S : ι → AEnv × AHeap × Nat) (μ : ι → Nat) (Pre : AEnv → AHeap → Nat → ι → Prop)
    (hpre : ∀ env h nb i, Pre env h nb i → ∀ E a w, Sim nt E env h nb a w → m ≤ nb → ∃ E', Sim nt E' (S i).1 (S i).2.1 (S i).2.2 a w ∧ m ≤ (S i).2.2 ∧ Evol m E h w E' (S i).2.1 w)
    (i0 : ι) (h0 : Pre env h nb i0)
    (round : ∀ i, ACode P nt m c (S i).1 (S i).2.1 (S i).2.2 (thenA (fun env h nb => ∃ j, μ j < μ i ∧ Pre env h nb j) Q)) : ACode P nt m (.loop c) env h nb Q := by
  intro E a w hs hm
  obtain ⟨E0, hs0, hm0, hev0⟩ := hpre env h nb i0 h0 E a w hs hm
  refine wp_loop_ix (fun i a' w' => ∃ E', Sim nt E' (S i).1 (S i).2.1 (S i).2.2 a' w' ∧ m ≤ (S i).2.2 ∧ Evol m E h w E' (S i).2.1 w') μ (fun i a1 w1 hI => ?_) i0 a w ⟨E0, hs0, hm0, hev0⟩
  obtain ⟨E1, hs1, hm1, hev1⟩ := hI
  refine wp_mono (round i E1 a1 w1 hs1 hm1) fun e a2 w2 ⟨E2, x, env2, h2, nb2, g1, g2, g3, g4, g5⟩ => ?_
  cases e <;> cases x <;> simp only [EM] at g3 <;> try exact g3.elim
  · obtain ⟨j, hj, hp⟩ := g1
    obtain ⟨E3, q1, q2, q3⟩ := hpre env2 h2 nb2 j hp E2 a2 w2 g4 g2
    exact ⟨j, ⟨E3, q1, q2, (hev1.trans g5).trans q3⟩, hj⟩
  · exact ⟨E2, _, env2, h2, nb2, g1, g2, g3, g4, hev1.trans g5⟩
  · exact ⟨E2, _, env2, h2, nb2, g1, g2, trivial, g4, hev1.trans g5⟩
  · exact ⟨E2, _, env2, h2, nb2, g1, g2, g3, g4, hev1.trans g5⟩

end

end Go.Ab

set_option linter.unusedVariables false
set_option linter.unusedSimpArgs false
namespace Go.Ab
open Go

/-! ### A nil slice is an empty one -/

mutual
def norm : AV → AV
  | .any => .any
  | .nil => .p (.fro [])
  | .p x => .p x
  | .ptr id off => .ptr id off
  | .ref id n => .ref id n
  | .apt id sz i j => .apt id sz i j
  | .rpt row j => .rpt row j
  | .fn f xs => .fn f xs
  | .agg xs => .agg (normL xs)
  | .tup xs => .tup (normL xs)
def normL : List AV → List AV
  | [] => []
  | x :: xs => norm x :: normL xs
end

theorem normL_eq : ∀ xs, normL xs = xs.map norm
  | [] => rfl
  | x :: xs => by rw [normL, normL_eq xs]; rfl

theorem Rep.norm {E : Env} {x : AV} {v : Value} (h : Rep E x v) : Rep E (norm x) v := by
  induction h with
  | nil => exact .p .nil
  | any v => exact .any v
  | p h => exact .p h
  | ptr h => exact .ptr h
  | ptrd q h => exact .ptrd q h
  | ref h hA => exact .ref h hA
  | refd A c h hA => exact .refd A c h hA
  | apt h => exact .apt h
  | aptd q h => exact .aptd q h
  | rpt g off vs h1 h2 h3 => exact .rpt g off vs h1 h2 h3
  | fn vs hs u hu h _ => exact .fn vs hs u hu h
  | @agg xs vs hs u hu _ ih =>
    rw [Ab.norm, normL_eq]
    refine .agg vs (by simpa using hs) u (fun i hi => hu i (by simpa using hi)) (fun i x hx => ?_)
    rw [List.getElem?_map] at hx
    cases hy : xs[i]? with
    | none => rw [hy] at hx; cases hx
    | some y => rw [hy] at hx; injection hx with hx; subst hx; exact ih i y hy
  | @tup xs vs hs u hu _ ih =>
    rw [Ab.norm, normL_eq]
    refine .tup vs (by simpa using hs) u (fun i hi => hu i (by simpa using hi)) (fun i x hx => ?_)
    rw [List.getElem?_map] at hx
    cases hy : xs[i]? with
    | none => rw [hy] at hx; cases hx
    | some y => rw [hy] at hx; injection hx with hx; subst hx; exact ih i y hy

theorem RepL.norm {E : Env} {xs : List AV} {vs : List Value} (h : RepL E xs vs) : RepL E (normL xs) vs := by
  rw [normL_eq]
  refine ⟨by simpa using h.1, fun i x hx => ?_⟩
  rw [List.getElem?_map] at hx
  cases hy : xs[i]? with
  | none => rw [hy] at hx; cases hx
  | some y =>
    rw [hy] at hx
    injection hx with hx
    subst hx
    obtain ⟨v, hv, hr⟩ := h.2 i y hy
    exact ⟨v, hv, hr.norm⟩

/-! ### Weaker states -/

/-- What a slot says less, under other numbers. -/
def AVLe (ρ : Nat → Nat) (n : Nat) (x x' : AV) : Prop := x' = .any ∨ (x = ren ρ x' ∧ idsLt n x') ∨ (norm x = x' ∧ idsLt 0 x')

theorem AVLe.rep {ρ : Nat → Nat} {n : Nat} {x x' : AV} {E : Env} {v : Value} (h : AVLe ρ n x x') (hr : Rep E x v) : Rep (pull ρ n E) x' v := by
  rcases h with rfl | ⟨h1, h2⟩ | ⟨h1, h2⟩
  · exact .any _
  · exact hr.pull x' h1 h2
  · exact (h1 ▸ hr.norm : Rep E x' v).free (.refl _) h2

/-- Slots, one by one. -/
def mkE : List (Nat × AV) → AEnv
  | [] => fun _ => .any
  | (k, x) :: l => upd (mkE l) k x
def mkH : List (Nat × Ck) → AHeap
  | [] => fun _ => none
  | (i, c) :: l => upd (mkH l) i (some c)

def AllE (ρ : Nat → Nat) (n : Nat) (env : AEnv) : List (Nat × AV) → Prop
  | [] => True
  | (k, x) :: l => AVLe ρ n (env k) x ∧ AllE ρ n env l
def AllH (ρ : Nat → Nat) (n : Nat) (h : AHeap) : List (Nat × Ck) → Prop
  | [] => True
  | (i, c) :: l => (i < n ∧ h (ρ i) = some (renCk ρ c) ∧ idsLtCk n (some c)) ∧ AllH ρ n h l

theorem AllE.at_ {ρ : Nat → Nat} {n : Nat} {env : AEnv} : ∀ {l : List (Nat × AV)}, AllE ρ n env l → ∀ k, AVLe ρ n (env k) (mkE l k)
  | [], _, k => .inl rfl
  | (k', x) :: l, h, k => by
    show AVLe ρ n (env k) (upd (mkE l) k' x k)
    by_cases e : k = k'
    · subst e; rw [upd_same]; exact h.1
    · rw [upd_other _ _ e]; exact AllE.at_ h.2 k

theorem AllH.at_ {ρ : Nat → Nat} {n : Nat} {h : AHeap} : ∀ {l : List (Nat × Ck)}, AllH ρ n h l → ∀ i, (mkH l i = none ∨ (i < n ∧ h (ρ i) = (mkH l i).map (renCk ρ))) ∧ idsLtCk n (mkH l i)
  | [], _, i => ⟨.inl rfl, trivial⟩
  | (i', c) :: l, hh, i => by
    show (upd (mkH l) i' (some c) i = none ∨ _) ∧ idsLtCk n (upd (mkH l) i' (some c) i)
    by_cases e : i = i'
    · subst e
      rw [upd_same]
      refine ⟨.inr ⟨hh.1.1, ?_⟩, hh.1.2.2⟩
      rw [hh.1.2.1]
      simp [mkH, upd_same]
    · rw [upd_other _ _ e]
      have := AllH.at_ hh.2 i
      refine ⟨?_, this.2⟩
      rcases this.1 with e1 | ⟨e1, e2⟩
      · exact .inl e1
      · refine .inr ⟨e1, ?_⟩
        rw [e2]
        simp [mkH, upd_other _ _ e]

theorem mkH_mem : ∀ {lh : List (Nat × Ck)} (i : Nat), mkH lh i ≠ none → i ∈ lh.map (·.1)
  | [], i, h => absurd rfl h
  | (k, c) :: l, i, h => by
    by_cases e : i = k
    · subst e; simp
    · have : mkH l i ≠ none := by
        rw [mkH, upd_other _ _ e] at h
        exact h
      have := mkH_mem i this
      simp only [List.map_cons, List.mem_cons]
      exact .inr this

structure WeakR (m : Nat) (ρ : Nat → Nat) (n : Nat) (ks : List Nat) : Prop where
  pin : ∀ i, i < m → ρ i = i
  inj : ∀ i j, i ∈ ks → j ∈ ks → i ≠ j → ρ i ≠ ρ j
  le : m ≤ n

theorem WeakR.id {m n : Nat} {ks : List Nat} (h : m ≤ n) : WeakR m (fun i => i) n ks := ⟨fun _ _ => rfl, fun _ _ _ _ h => h, h⟩

theorem weak_sim {nt m nb nb' : Nat} {ρ : Nat → Nat} {E : Env} {env env' : AEnv} {h h' : AHeap} {a : Act} {w : World} {ks : List Nat} (hr : WeakR m ρ nb' ks) (hks : ∀ i, h' i ≠ none → i ∈ ks) (hs : Sim nt E env h nb a w)
    (he : ∀ k, AVLe ρ nb' (env k) (env' k)) (hh : ∀ i, (h' i = none ∨ (i < nb' ∧ h (ρ i) = (h' i).map (renCk ρ))) ∧ idsLtCk nb' (h' i)) :
    Sim nt (pull ρ nb' E) env' h' nb' a w ∧ Evol m E h w (pull ρ nb' E) h' w := by
  have hl : ∀ i, i < nb' → h' i = none ∨ h (ρ i) = (h' i).map (renCk ρ) := fun i hi => by
    rcases (hh i).1 with e | ⟨_, e⟩
    · exact .inl e
    · exact .inr e
  have hn : ∀ i, nb' ≤ i → h' i = none := fun i hi => by
    rcases (hh i).1 with e | ⟨e, _⟩
    · exact e
    · omega
  refine ⟨⟨hs.ok.pull hl hn (fun i => (hh i).2) (fun i j hi hj => hr.inj i j (hks i hi) (hks j hj)), fun k => (he k).rep (hs.env k), fun id hid => by simp [pull, Nat.not_lt.2 hid], hs.size, hs.defers⟩, ⟨.refl _, fun id hid => ?_, Nat.le_refl _, fun _ _ _ => rfl, fun _ _ e => .inl e, fun g ho => .inr ?_, rfl, rfl⟩⟩
  · left
    rw [pull_ch (Nat.lt_of_lt_of_le hid hr.le), hr.pin id hid]
  · obtain ⟨i, _, h1, h2⟩ := own_pull hl hn ho
    exact ⟨_, h1, h2⟩

section
variable {P : Program} {nt m nb : Nat} {env : AEnv} {h : AHeap} {Q : AQ}

theorem c_weak {c : Code} (ρ : Nat → Nat) (le : List (Nat × AV)) (lh : List (Nat × Ck)) (nb' : Nat) (hr : WeakR m ρ nb' (lh.map (·.1))) (he : AllE ρ nb' env le) (hh : AllH ρ nb' h lh)
    (hc : ACode P nt m c (mkE le) (mkH lh) nb' Q) : ACode P nt m c env h nb Q := by
  intro E a w hs hm
  obtain ⟨h1, h2⟩ := weak_sim hr mkH_mem hs he.at_ hh.at_
  refine wp_mono (hc _ a w h1 hr.le) fun e a' w' ⟨E', x, env', h', nb', g1, g2, g3, g4, g5⟩ => ⟨E', x, env', h', nb', g1, g2, g3, g4, h2.trans g5⟩

/-- A loop whose rounds' heads are states of one family, told slot by slot. -/
theorem c_loop_at {c : Code} {ι : Type} (le : ι → List (Nat × AV)) (lh : ι → List (Nat × Ck)) (n : Nat) (I : ι → Prop) (μ : ι → Nat)
    (i0 : ι) (hi0 : I i0) (h0 : ∃ ρ, WeakR m ρ n ((lh i0).map (·.1)) ∧ AllE ρ n env (le i0) ∧ AllH ρ n h (lh i0))
    (round : ∀ i, I i → ACode P nt m c (mkE (le i)) (mkH (lh i)) n (thenA (fun env h nb => ∃ j, (I j ∧ μ j < μ i) ∧ ∃ ρ, WeakR m ρ n ((lh j).map (·.1)) ∧ AllE ρ n env (le j) ∧ AllH ρ n h (lh j)) Q)) :
    ACode P nt m (.loop c) env h nb Q := by
  refine c_loop (ι := { i : ι // I i }) (fun i => (mkE (le i.1), mkH (lh i.1), n)) (fun i => μ i.1) (fun env h nb i => ∃ ρ, WeakR m ρ n ((lh i.1).map (·.1)) ∧ AllE ρ n env (le i.1) ∧ AllH ρ n h (lh i.1)) ?_ ⟨i0, hi0⟩ h0 ?_
  · intro env h nb i hp E a w hs hm
    obtain ⟨ρ, hr, he, hh⟩ := hp
    obtain ⟨h1, h2⟩ := weak_sim hr mkH_mem hs he.at_ hh.at_
    exact ⟨_, h1, hr.le, h2⟩
  · intro i
    refine (round i.1 i.2).mono fun x env h nb hq => ?_
    cases x with
    | normal => obtain ⟨j, ⟨hj, hlt⟩, hp⟩ := hq; exact ⟨⟨j, hj⟩, hlt, hp⟩
    | _ => exact hq

theorem c_cut {c : Code} {ι : Type} {K : AEnv → AHeap → Nat → Prop} (le : ι → List (Nat × AV)) (lh : ι → List (Nat × Ck)) (n : Nat) (I : ι → Prop)
    (hc : ACode P nt m c env h nb (thenA (fun env h nb => ∃ j, I j ∧ ∃ ρ, WeakR m ρ n ((lh j).map (·.1)) ∧ AllE ρ n env (le j) ∧ AllH ρ n h (lh j)) Q)) (d : Code)
    (hK : ∀ env h nb, ACode P nt m d env h nb Q → K env h nb)
    (hd : ∀ j, I j → ACode P nt m d (mkE (le j)) (mkH (lh j)) n Q) : ACode P nt m c env h nb (thenA K Q) := by
  refine hc.mono fun x env h nb hq => ?_
  cases x with
  | normal =>
    obtain ⟨j, hj, ρ, hr, he, hh⟩ := hq
    exact hK env h nb (c_weak ρ (le j) (lh j) n hr he hh (hd j hj))
  | _ => exact hq

/-! ### Freezing -/

theorem c_freeze {c : Code} (id : Nat) {e : TypeId} {sz : Nat} {rows : List (List PV)} (hid : h id = some (.arr e sz rows)) (hc : ACode P nt m c env (upd h id (some (.fz rows))) nb Q) : ACode P nt m c env h nb Q := by
  intro E a w hs hm
  obtain ⟨E', hch, hI, hw', himm⟩ := freeze_wok hs.ok hid
  have hle : ELe E E' := ⟨hI, fun id => .inr (.inl (by rw [hch]))⟩
  have hev : Evol m E h w E' (upd h id (some (.fz rows))) w := by
    refine ⟨hI, fun _ _ => .inl (by rw [hch]), Nat.le_refl _, fun _ _ _ => rfl, fun g o hg => ?_, fun g ho => .inr ?_, rfl, rfl⟩
    · rcases himm g o hg with h1 | h1
      · exact .inl h1
      · exact .inr (.inr ⟨id, by rw [hid]; rfl, h1⟩)
    · obtain ⟨i, h1, h2⟩ := ho
      rw [hch] at h2
      by_cases e : i = id
      · subst e; rw [upd_same] at h1; cases h1
      · rw [upd_other _ _ e] at h1; exact ⟨i, h1, h2⟩
  refine wp_mono (hc E' a w ⟨hw', fun k => (hs.env k).mono hle, fun id hid => by rw [hch]; exact hs.fresh id hid, hs.size, hs.defers⟩ hm) fun e a' w' ⟨E2, x, env', h', nb', g1, g2, g3, g4, g5⟩ => ⟨E2, x, env', h', nb', g1, g2, g3, g4, hev.trans g5⟩

/-- A slot that holds a frozen array tells its rows. -/
theorem c_frozen {c : Code} (k : Nat) {id n : Nat} {rows : List (List PV)} (hk : env k = .ref id n) (hid : h id = some (.fz rows)) (hn : rows.length = n) (hc : ACode P nt m c (upd env k (.p (.fro rows))) h nb Q) : ACode P nt m c env h nb Q := by
  intro E a w hs hm
  refine hc E a w ⟨hs.ok, fun j => ?_, hs.fresh, hs.size, hs.defers⟩ hm
  by_cases e : j = k
  · subst e
    rw [upd_same]
    have := hs.env j
    rw [hk] at this
    exact fro_of_fz hs.ok hid this hn
  · rw [upd_other _ _ e]; exact hs.env j

/-- So does a cell of a variable. -/
theorem c_frozen_cell {c : Code} (b j : Nat) {t : TypeId} {cells : List AV} {id n : Nat} {rows : List (List PV)} (hb : h b = some (.box t cells)) (hj : cells[j]? = some (.ref id n)) (hid : h id = some (.fz rows)) (hn : rows.length = n)
    (hc : ACode P nt m c env (upd h b (some (.box t (cells.set j (.p (.fro rows)))))) nb Q) : ACode P nt m c env h nb Q := by
  intro E a w hs hm
  have hw := hs.ok
  have hk := hw.ck b
  rw [hb] at hk
  obtain ⟨g, vs, e1, hg, hsz, hcl, hI⟩ := hk
  have hw' : WOK E (upd h b (some (.box t (cells.set j (.p (.fro rows)))))) w := by
    refine hw.touch (g := g) (by rw [hb]; rfl) (by rw [e1]; rfl) (fun _ _ => rfl) ?_
    rw [e1]
    refine ⟨g, vs, rfl, hg, by simpa using hsz, fun i x hx => ?_, hI⟩
    by_cases e : i = j
    · subst e
      have hlt : i < cells.length := (List.getElem?_eq_some_iff.1 hj).1
      rw [List.getElem?_set_self hlt] at hx
      injection hx with hx
      subst hx
      obtain ⟨v, hv, hr⟩ := hcl i _ hj
      exact ⟨v, hv, fro_of_fz hw hid hr hn⟩
    · rw [List.getElem?_set_ne (Ne.symm e)] at hx
      exact hcl i x hx
  have hev : Evol m E h w E (upd h b (some (.box t (cells.set j (.p (.fro rows)))))) w :=
    (Moved.touch (g := g) (by rw [hb]; rfl) (by rw [e1]; rfl) (Nat.le_refl _) (fun _ _ => rfl)).evol (nid := m) (.refl _ _) (Nat.le_refl _)
  refine wp_mono (hc E a w ⟨hw', hs.env, hs.fresh, hs.size, hs.defers⟩ hm) fun e a' w' ⟨E2, x, env', h', nb', g1, g2, g3, g4, g5⟩ => ⟨E2, x, env', h', nb', g1, g2, g3, g4, hev.trans g5⟩

/-- A nil slice is taken up as an array of the call's own. -/
theorem c_adopt {c : Code} (k : Nat) (e : TypeId) (sz : Nat) (hk : env k = .nil) (hc : ACode P nt m c (upd env k (.ref nb 0)) (upd h nb (some (.arr e sz []))) (nb + 1) Q) : ACode P nt m c env h nb Q := by
  intro E a w hs hm
  have hu := hs.fresh nb (Nat.le_refl _)
  have hle : ELe E { E with ch := upd E.ch nb (.sl (.slice none 0 0)) } := (EStep.new E nb _).le hu
  have hci : ∀ g, (ChI.sl (.slice none 0 0)).block = some g → w.heap.size ≤ g := fun g e => by cases e
  have hw' := hs.ok.new (ci := .sl (.slice none 0 0)) (ck := some (.arr e sz [])) hu (Nat.le_refl _) (fun _ _ => rfl) hci
    ⟨_, rfl, [], ⟨by simp, .inl ⟨rfl, rfl⟩⟩, fun r hr => by simp at hr, fun i j r x hr => by simp at hr, fun u hu => by simp at hu, fun g hg => by cases hg⟩
  have hev : Evol m E h w { E with ch := upd E.ch nb (.sl (.slice none 0 0)) } (upd h nb (some (.arr e sz []))) w := (Moved.new (Nat.le_refl _) (fun _ _ => rfl) hci).evol (.new E nb _) hm
  refine wp_mono (hc _ a w ⟨hw', fun j => ?_, fun id hid => ?_, hs.size, hs.defers⟩ (by omega)) fun e a' w' ⟨E2, x, env', h', nb', g1, g2, g3, g4, g5⟩ => ⟨E2, x, env', h', nb', g1, g2, g3, g4, hev.trans g5⟩
  · by_cases e : j = k
    · subst e
      rw [upd_same]
      have := hs.env j
      rw [hk] at this
      generalize a.tmps.getD j undef = v at this
      cases this
      exact .ref (upd_same _ _ _) (fun hp => absurd hp (by omega))
    · rw [upd_other _ _ e]; exact (hs.env j).mono hle
  · show upd E.ch nb _ id = _
    rw [upd_other _ _ (by omega)]
    exact hs.fresh id (by omega)

/-! ### A function's begin and end -/

def argAt : List AV → Nat → AV
  | [], _ => .any
  | x :: _, 0 => x
  | _ :: l, k + 1 => argAt l k

theorem argAt_eq : ∀ (l : List AV) (k : Nat), argAt l k = l.getD k .any
  | [], k => by simp [argAt]
  | x :: l, 0 => rfl
  | x :: l, k + 1 => by simp [argAt, argAt_eq l k]

def envA (args : List AV) : AEnv := fun k => argAt args k

def resA (P : Program) (env : AEnv) (h : AHeap) : List ResultVar → Option (List AV)
  | [] => some []
  | .tmp t :: l => match resA P env h l with
    | some r => some (env t :: r)
    | none => none
  | .cell a t :: l => match tyf P t with
    | some y => match loadA h y (env a), resA P env h l with
      | some x, some r => some (x :: r)
      | _, _ => none
    | none => none

def oneA : List AV → AV
  | [x] => x
  | l => .tup l

/-- The result, under the numbers that the caller knows. -/
structure Out (m : Nat) (h : AHeap) (y : AV) (R : AV → AHeap → Prop) : Prop where
  out : ∃ (ρ : Nat → Nat) (y' : AV) (lh : List (Nat × Ck)), WeakR m ρ (m + 1) (lh.map (·.1)) ∧ AVLe ρ (m + 1) y y' ∧ AllH ρ (m + 1) h lh ∧ idsLt (m + 1) y' ∧ R y' (mkH lh)

def RetQ (P : Program) (m : Nat) (res : List ResultVar) (R : AV → AHeap → Prop) (Rp : AV → Prop) : AQ
  | .normal, env, h, _ => ∃ l, resA P env h res = some l ∧ Out m h (oneA l) R
  | .ret, env, h, _ => ∃ l, resA P env h res = some l ∧ Out m h (oneA l) R
  | .panic x, _, _, _ => Rp x
  | _, _, _, _ => False

omit env h Q in
theorem resA_run {E : Env} {w : World} {a : Act} {env : AEnv} {h : AHeap} (hw : WOK E h w) (henv : ∀ k, Rep E (env k) (a.tmps.getD k undef)) : ∀ (rs : List ResultVar) (l : List AV), resA P env h rs = some l →
    ∃ vs, (rs.mapM fun
      | ResultVar.tmp t => pure (a.tmps.getD t undef)
      | ResultVar.cell x t => do loadVar t (← asAddr (a.tmps.getD x undef)) : Sem (List Value)).run P w = .ok vs w ∧ RepL E l vs
  | [], l, hr => by
    injection hr with hr
    subst hr
    exact ⟨[], by simp, .nil E⟩
  | .tmp t :: rs, l, hr => by
    simp only [resA] at hr
    split at hr
    · rename_i r hrr
      injection hr with hr
      subst hr
      obtain ⟨vs, h1, h2⟩ := resA_run hw henv rs r hrr
      exact ⟨_, by simp only [List.mapM_cons, Sem.run_bind, Sem.run_pure, Result.andThen_ok, h1], .cons (henv t) h2⟩
    · cases hr
  | .cell x t :: rs, l, hr => by
    simp only [resA] at hr
    split at hr
    · rename_i y hy
      split at hr
      · rename_i z r hz hrr
        injection hr with hr
        subst hr
        obtain ⟨vs, h1, h2⟩ := resA_run hw henv rs r hrr
        obtain ⟨ad, val, e1, e2, e3⟩ := load_run (P := P) hw hy (henv x) hz
        have e4 : (asAddr (a.tmps.getD x undef)).run P w = .ok ad w := by rw [e1]; rfl
        exact ⟨_, by simp only [List.mapM_cons, Sem.run_bind, Sem.run_pure, Result.andThen_ok, e4, e2, h1], .cons e3 h2⟩
      · cases hr
    · cases hr

omit env h Q nb in
theorem acalls_of_body {f : FuncId} {fn : Func} {c : Code} {args : List AV} {H : AHeap} {R : AV → AHeap → Prop} {Rp : AV → Prop} (hf : P.funcs[f]? = some fn) (hb : fn.body = some c) (hnt : fn.ntmps = nt) (hlen : args.length ≤ nt)
    (hrp : ∀ x, Rp x → True)
    (hc : ACode P nt m c (envA args) H m (RetQ P m fn.results.toList R Rp)) : ACalls P f m args H R Rp := by
  intro E w vs hw hfr hrep
  refine calls_of_wp hf hb ?_
  have hvl : vs.size = args.length := by have := hrep.1; simpa using this.symm
  have hs : Sim nt E (envA args) H m { tmps := vs ++ Array.replicate (fn.ntmps - vs.size) undef, defers := [] } w := by
    refine ⟨hw, fun k => ?_, hfr, by simp; omega, rfl⟩
    show Rep E (argAt args k) _
    rw [argAt_eq]
    by_cases hk : k < args.length
    · obtain ⟨v, hv, hr⟩ := hrep.2 k args[k] (List.getElem?_eq_getElem hk)
      have h1 : args.getD k .any = args[k] := by simp [hk]
      have hv' : vs[k]? = some v := by simpa using hv
      have h2 : (vs ++ Array.replicate (fn.ntmps - vs.size) undef).getD k undef = v := by
        rw [Array.getD_eq_getD_getElem?, Array.getElem?_append_left (by omega), hv']
        rfl
      rw [h1, h2]
      exact hr
    · have h1 : args.getD k .any = .any := by simp [List.getD, List.getElem?_eq_none (Nat.le_of_not_lt hk)]
      rw [h1]
      exact .any _
  refine wp_mono (hc E _ w hs (Nat.le_refl _)) fun e a' w' hq => ?_
  obtain ⟨E', x, env', h', nb', g1, g2, g3, g4, g5⟩ := hq
  have fin : (∃ l, resA P env' h' fn.results.toList = some l ∧ Out m h' (oneA l) R) → a'.defers = [] ∧ ∃ v, (results fn a'.tmps).run P w' = .ok v w' ∧ APost m E H w R Rp (.returned v) w' := by
    intro ⟨l, hl, ho⟩
    obtain ⟨us, h1, h2⟩ := resA_run (P := P) g4.ok g4.env _ l hl
    obtain ⟨ρ, y', lh, q1, q2, q3, q4, q5⟩ := ho.out
    have hrun : (results fn a'.tmps).run P w' = .ok (if h : us.toArray.size = 1 then us.toArray[0] else .tuple us.toArray) w' := by
      unfold results
      rw [Array.mapM_eq_mapM_toList]
      rw [Sem.run_bind, Sem.run_map]
      exact congrArg (fun (r : Result (List Value)) => (r.andThen fun a w' => .ok a.toArray w').andThen fun (a : Array Value) w' => Sem.run P (pure (if h : a.size = 1 then a[0] else .tuple a)) w') h1
    have hrv : Rep E' (oneA l) (if h : us.toArray.size = 1 then us.toArray[0] else .tuple us.toArray) := by
      have hlen := h2.1
      match l, us, h2, hlen with
      | [x], [u], h2, _ =>
        obtain ⟨v, hv, hr⟩ := h2.2 0 x rfl
        simp at hv
        subst hv
        exact hr
      | [], [], h2, _ => exact RepL.tup (by simpa using h2)
      | x :: y :: l, u :: v :: us, h2, _ =>
        have : ¬ (u :: v :: us).toArray.size = 1 := by simp
        rw [dif_neg this]
        exact RepL.tup (by simpa using h2)
    obtain ⟨s1, s2⟩ := weak_sim q1 mkH_mem g4 (fun k => (.inl rfl : AVLe ρ (m + 1) (env' k) .any)) q3.at_
    refine ⟨g4.defers, _, hrun, .inl ⟨_, _, y', mkH lh, rfl, q2.rep hrv, q5, ⟨q4, fun id hid => ?_, fun id => (q3.at_ id).2⟩, s1.ok, g5.trans s2⟩⟩
    rcases (q3.at_ id).1 with e | ⟨e, _⟩
    · exact e
    · omega
  cases e <;> cases x <;> simp only [EM] at g3 <;> try exact g3.elim
  · exact fin g1
  · exact g1.elim
  · exact fin g1
  · obtain ⟨v, e1, e2, e3⟩ := g3
    refine ⟨g4.defers, .inr ⟨v, E', _, by rw [e1], e2, g1, e3, ⟨g4.ok.imm, fun _ => trivial, fun _ _ _ _ h => by cases h⟩, ⟨g5.I, g5.ch, g5.size, g5.frame, g5.imm, fun g ho => ?_, g5.same⟩⟩⟩
    obtain ⟨i, h1, _⟩ := ho
    cases h1

end

end Go.Ab

set_option linter.unusedVariables false
set_option linter.unusedSimpArgs false
namespace Go.Ab
open Go

theorem upd_at {α : Type} (f : Nat → α) (k j : Nat) (v : α) : upd f k v j = if j = k then v else f j := rfl

/-! ### Regions -/

/-- A truth value, once known; anything else stays. -/
def setV (b : Bool) : AV → AV
  | .p (.sc (.bool _)) => .p (.sc (.bool b))
  | x => x

theorem setV_bool (b b' : Bool) : setV b (.p (.sc (.bool b'))) = .p (.sc (.bool b)) := rfl
theorem setV_tuple (b : Bool) (vs : Array Value) : setV b (.p (.sc (.tuple vs))) = .p (.sc (.tuple vs)) := rfl

/-- The slot that operation j writes holds b. -/
def setY (ds : List (Option Tmp)) (env : AEnv) (j : Nat) (b : Bool) : AEnv :=
  match ds[j]? with
  | some (some d) => upd env d (setV b (env d))
  | _ => env

section
variable {P : Program} {ds : List (Option Tmp)} {K : AEnv → AHeap → Prop} {Kp : AV → Prop} {nid : Nat} {env : AEnv} {h : AHeap} {l : List SOp}

theorem regK_nil : regK P ds K Kp nid [] env h = K env h := rfl

/-- Behind one operation. -/
def contK (P : Program) (ds : List (Option Tmp)) (K : AEnv → AHeap → Prop) (Kp : AV → Prop) (nid : Nat) (r : Option (Prop × AV × AHeap)) (dst : Option Tmp) (l : List SOp) (env : AEnv) : Prop :=
  match r with
  | some (s, x, h') => s ∧ regK P ds K Kp (nid + 1) l (putE env dst x) h'
  | none => False

theorem contK_some {s : Prop} {x : AV} {h' : AHeap} {dst : Option Tmp} : contK P ds K Kp nid (some (s, x, h')) dst l env = (s ∧ regK P ds K Kp (nid + 1) l (putE env dst x) h') := rfl

theorem regK_op {dst : Option Tmp} {op : Op} (ho : isCall op = false) : regK P ds K Kp nid (⟨dst, op, none⟩ :: l) env h = contK P ds K Kp nid (aop P nid env h op) dst l env := by
  simp only [regK, contK, exec1]
  cases op <;> try rfl
  · rename_i c
    obtain ⟨callee, args, ats⟩ := c
    cases callee <;> first | rfl | cases ho
  · cases ho

theorem regK_move {dst : Option Tmp} {x : Operand} : regK P ds K Kp nid (⟨dst, .move x, none⟩ :: l) env h = contK P ds K Kp nid (aop P nid env h (.move x)) dst l env := regK_op rfl
theorem regK_assign {dst : Option Tmp} {x : Operand} : regK P ds K Kp nid (⟨dst, .assign x, none⟩ :: l) env h = contK P ds K Kp nid (aop P nid env h (.assign x)) dst l env := regK_op rfl
theorem regK_pick {dst : Option Tmp} {c : Operand} {x : Operand} {y : Operand} : regK P ds K Kp nid (⟨dst, .pick c x y, none⟩ :: l) env h = contK P ds K Kp nid (aop P nid env h (.pick c x y)) dst l env := regK_op rfl
theorem regK_alloc {dst : Option Tmp} {t : TypeId} : regK P ds K Kp nid (⟨dst, .alloc t, none⟩ :: l) env h = contK P ds K Kp nid (aop P nid env h (.alloc t)) dst l env := regK_op rfl
theorem regK_box {dst : Option Tmp} {t : TypeId} {x : Operand} : regK P ds K Kp nid (⟨dst, .box t x, none⟩ :: l) env h = contK P ds K Kp nid (aop P nid env h (.box t x)) dst l env := regK_op rfl
theorem regK_build {dst : Option Tmp} {t : TypeId} {ps : Array (Nat × Operand)} : regK P ds K Kp nid (⟨dst, .build t ps, none⟩ :: l) env h = contK P ds K Kp nid (aop P nid env h (.build t ps)) dst l env := regK_op rfl
theorem regK_buildSlice {dst : Option Tmp} {t : TypeId} {n : Nat} {ps : Array (Nat × Operand)} : regK P ds K Kp nid (⟨dst, .buildSlice t n ps, none⟩ :: l) env h = contK P ds K Kp nid (aop P nid env h (.buildSlice t n ps)) dst l env := regK_op rfl
theorem regK_load {dst : Option Tmp} {t : TypeId} {x : Operand} : regK P ds K Kp nid (⟨dst, .load t x, none⟩ :: l) env h = contK P ds K Kp nid (aop P nid env h (.load t x)) dst l env := regK_op rfl
theorem regK_store {dst : Option Tmp} {t : TypeId} {x : Operand} {y : Operand} : regK P ds K Kp nid (⟨dst, .store t x y, none⟩ :: l) env h = contK P ds K Kp nid (aop P nid env h (.store t x y)) dst l env := regK_op rfl
theorem regK_nilCheck {dst : Option Tmp} {x : Operand} : regK P ds K Kp nid (⟨dst, .nilCheck x, none⟩ :: l) env h = contK P ds K Kp nid (aop P nid env h (.nilCheck x)) dst l env := regK_op rfl
theorem regK_binOp {dst : Option Tmp} {b : BinOp} {t : TypeId} {x : Operand} {y : Operand} {t' : TypeId} : regK P ds K Kp nid (⟨dst, .binOp b t x y t', none⟩ :: l) env h = contK P ds K Kp nid (aop P nid env h (.binOp b t x y t')) dst l env := regK_op rfl
theorem regK_unOp {dst : Option Tmp} {u : UnOp} {t : TypeId} {x : Operand} : regK P ds K Kp nid (⟨dst, .unOp u t x, none⟩ :: l) env h = contK P ds K Kp nid (aop P nid env h (.unOp u t x)) dst l env := regK_op rfl
theorem regK_convert {dst : Option Tmp} {t : TypeId} {t' : TypeId} {x : Operand} : regK P ds K Kp nid (⟨dst, .convert t t' x, none⟩ :: l) env h = contK P ds K Kp nid (aop P nid env h (.convert t t' x)) dst l env := regK_op rfl
theorem regK_makeFunc {dst : Option Tmp} {fn : Fn} {xs : Array Operand} {ys : Array Operand} : regK P ds K Kp nid (⟨dst, .makeFunc fn xs ys, none⟩ :: l) env h = contK P ds K Kp nid (aop P nid env h (.makeFunc fn xs ys)) dst l env := regK_op rfl
theorem regK_makeSlice {dst : Option Tmp} {t : TypeId} {x : Operand} {y : Operand} : regK P ds K Kp nid (⟨dst, .makeSlice t x y, none⟩ :: l) env h = contK P ds K Kp nid (aop P nid env h (.makeSlice t x y)) dst l env := regK_op rfl
theorem regK_slice {dst : Option Tmp} {t : TypeId} {x : Operand} {lo : Option Operand} {hi : Option Operand} {mx : Option Operand} : regK P ds K Kp nid (⟨dst, .slice t x lo hi mx, none⟩ :: l) env h = contK P ds K Kp nid (aop P nid env h (.slice t x lo hi mx)) dst l env := regK_op rfl
theorem regK_fieldAddr {dst : Option Tmp} {t : TypeId} {x : Operand} {n : Nat} : regK P ds K Kp nid (⟨dst, .fieldAddr t x n, none⟩ :: l) env h = contK P ds K Kp nid (aop P nid env h (.fieldAddr t x n)) dst l env := regK_op rfl
theorem regK_field {dst : Option Tmp} {t : TypeId} {x : Operand} {n : Nat} : regK P ds K Kp nid (⟨dst, .field t x n, none⟩ :: l) env h = contK P ds K Kp nid (aop P nid env h (.field t x n)) dst l env := regK_op rfl
theorem regK_indexAddr {dst : Option Tmp} {t : TypeId} {x : Operand} {y : Operand} : regK P ds K Kp nid (⟨dst, .indexAddr t x y, none⟩ :: l) env h = contK P ds K Kp nid (aop P nid env h (.indexAddr t x y)) dst l env := regK_op rfl
theorem regK_index {dst : Option Tmp} {t : TypeId} {x : Operand} {y : Operand} : regK P ds K Kp nid (⟨dst, .index t x y, none⟩ :: l) env h = contK P ds K Kp nid (aop P nid env h (.index t x y)) dst l env := regK_op rfl
theorem regK_extract {dst : Option Tmp} {x : Operand} {n : Nat} : regK P ds K Kp nid (⟨dst, .extract x n, none⟩ :: l) env h = contK P ds K Kp nid (aop P nid env h (.extract x n)) dst l env := regK_op rfl
theorem regK_builtin {dst : Option Tmp} {b : Builtin} {xs : Array Operand} {ts : Array TypeId} : regK P ds K Kp nid (⟨dst, .call { callee := .builtin b, args := xs, argTypes := ts }, none⟩ :: l) env h = contK P ds K Kp nid (aop P nid env h (.call { callee := .builtin b, args := xs, argTypes := ts })) dst l env := regK_op rfl

def grdK (P : Program) (ds : List (Option Tmp)) (K : AEnv → AHeap → Prop) (Kp : AV → Prop) (nid : Nat) (r : Option Bool) (j : Nat) (want : Bool) (dst : Option Tmp) (op : Op) (l : List SOp) (env : AEnv) (h : AHeap) : Prop :=
  match r with
  | some b => (b = want → regK P ds K Kp nid (⟨dst, op, none⟩ :: l) (setY ds env j b) h) ∧ (b ≠ want → regK P ds K Kp (nid + 1) l (putE (setY ds env j b) dst (.p (.sc (.tuple #[])))) h)
  | none => False

theorem setY_eq {j : Nat} {b want : Bool} (hy : yld ds env j want = some b) : setY ds env j b = env := by
  unfold yld at hy
  unfold setY
  split at hy
  · rename_i d hd
    try rw [hd]
    funext k
    show upd env d _ k = env k
    by_cases e : k = d
    · subst e
      rw [upd_same]
      unfold yldV at hy
      split at hy
      · rename_i b' hb
        injection hy with hy
        subst hy
        rw [hb]; rfl
      · rename_i vs hb
        rw [hb]; rfl
      · cases hy
    · rw [upd_other _ _ e]
  · cases hy

theorem regK_grd {dst : Option Tmp} {op : Op} {j : Nat} {want : Bool} : regK P ds K Kp nid (⟨dst, op, some (j, want)⟩ :: l) env h = grdK P ds K Kp nid (yld ds env j want) j want dst op l env h := by
  simp only [regK, grdK]
  cases hy : yld ds env j want with
  | none => rfl
  | some b => simp only [setY_eq hy]

theorem grdK_tt {dst : Option Tmp} {op : Op} {j : Nat} : grdK P ds K Kp nid (some true) j true dst op l env h = regK P ds K Kp nid (⟨dst, op, none⟩ :: l) (setY ds env j true) h := by simp [grdK]
theorem grdK_ff {dst : Option Tmp} {op : Op} {j : Nat} : grdK P ds K Kp nid (some false) j false dst op l env h = regK P ds K Kp nid (⟨dst, op, none⟩ :: l) (setY ds env j false) h := by simp [grdK]
theorem grdK_tf {dst : Option Tmp} {op : Op} {j : Nat} : grdK P ds K Kp nid (some true) j false dst op l env h = regK P ds K Kp (nid + 1) l (putE (setY ds env j true) dst (.p (.sc (.tuple #[])))) h := by simp [grdK]
theorem grdK_ft {dst : Option Tmp} {op : Op} {j : Nat} : grdK P ds K Kp nid (some false) j true dst op l env h = regK P ds K Kp (nid + 1) l (putE (setY ds env j false) dst (.p (.sc (.tuple #[])))) h := by simp [grdK]

theorem grdK_b {dst : Option Tmp} {op : Op} {j : Nat} {want b : Bool} (ht : b = true → grdK P ds K Kp nid (some true) j want dst op l env h) (hf : b = false → grdK P ds K Kp nid (some false) j want dst op l env h) :
    grdK P ds K Kp nid (some b) j want dst op l env h := by
  cases b
  · exact hf rfl
  · exact ht rfl

theorem grdK_dec {dst : Option Tmp} {op : Op} {j : Nat} {want : Bool} {p : Prop} [Decidable p] (ht : p → grdK P ds K Kp nid (some true) j want dst op l env h) (hf : ¬ p → grdK P ds K Kp nid (some false) j want dst op l env h) :
    grdK P ds K Kp nid (some (decide p)) j want dst op l env h :=
  grdK_b (fun e => ht (of_decide_eq_true e)) (fun e => hf (of_decide_eq_false e))

theorem regK_call {dst : Option Tmp} {fo : Operand} {args : Array Operand} {ats : Array TypeId} {f : FuncId} {caps : List AV} (hf : calleeA env fo = some (f, caps))
    (hc : CallK P f (args.toList.map (ev env) ++ caps) nid h (fun x h' => regK P ds K Kp (nid + 1) l (putE env dst x) h') Kp) :
    regK P ds K Kp nid (⟨dst, .call { callee := .value fo, args, argTypes := ats }, none⟩ :: l) env h := by
  simp only [regK, exec1, hf]
  exact hc

theorem regK_panic {dst : Option Tmp} {x : Operand} {t : TypeId} {v : Value} (hx : ev env x = .p (.sc (.iface t v))) (hk : Kp (.p (.sc (.iface t v)))) :
    regK P ds K Kp nid (⟨dst, .panic x, none⟩ :: l) env h := by
  simp only [regK, exec1, hx]
  exact hk
end

/-- A quiet call: no chunk goes over, none comes back. -/
theorem CallK.quiet {P : Program} {f : FuncId} {args largs : List AV} {nid : Nat} {h : AHeap} {K : AV → AHeap → Prop} {Kp : AV → Prop} {R : AV → AHeap → Prop} {Rp : AV → Prop} (hc : callable P f = true)
    (hcall : ACalls P f 0 largs (fun _ => none) R Rp) (hargs : ∀ (E : Env) (vs : List Value), RepL E args vs → RepL E largs vs) (hids : idsLtL 0 largs)
    (hk : ∀ y l', R y l' → Tidy 0 y l' → K (ren (fun _ => nid) y) (pushH [] nid l' h)) (hp : ∀ x, Rp x → Kp x) : CallK P f args nid h K Kp := by
  have key : ∀ (xs : List AV), idsLtL 0 xs → ∀ (E : Env) (vs : List Value), RepL E xs vs → RepL E (renL (look [] nid) xs) vs := by
    intro xs hx E vs hr
    refine ⟨by rw [renL_eq]; simpa using hr.1, fun i x hi => ?_⟩
    rw [renL_eq, List.getElem?_map] at hi
    cases hy : xs[i]? with
    | none => rw [hy] at hi; cases hi
    | some y =>
      rw [hy] at hi
      injection hi with hi
      subst hi
      obtain ⟨v, hv, hr2⟩ := hr.2 i y hy
      exact ⟨v, hv, hr2.push (m := 0) (.refl _) (fun id hid => absurd hid (by omega)) ((idsLtL_iff 0 xs).1 hx y (List.mem_of_getElem? hy))⟩
  refine ⟨hc, [], largs, fun _ => none, R, Rp, hcall, fun E vs hr => key largs hids E vs (hargs E vs hr), hids, List.nodup_nil, by simp, fun i hi => absurd hi (by simp), fun _ _ => rfl, fun _ => trivial, fun y l' h1 h2 => ?_, hp⟩
  have : look [] nid = fun _ => nid := by funext i; simp [look]
  rw [this]
  exact hk y l' h1 h2

mutual
theorem ren_free (ρ : Nat → Nat) : ∀ x : AV, idsLt 0 x → ren ρ x = x
  | .any, _ | .nil, _ | .p _, _ | .rpt _ _, _ => rfl
  | .ptr id _, h | .ref id _, h | .apt id _ _ _, h => by simp [idsLt] at h
  | .fn f xs, h => by rw [ren, renL_free ρ xs h]
  | .agg xs, h => by rw [ren, renL_free ρ xs h]
  | .tup xs, h => by rw [ren, renL_free ρ xs h]
theorem renL_free (ρ : Nat → Nat) : ∀ xs : List AV, idsLtL 0 xs → renL ρ xs = xs
  | [], _ => rfl
  | x :: xs, h => by rw [renL, ren_free ρ x h.1, renL_free ρ xs h.2]
end

theorem pushH_none (nid : Nat) (h : AHeap) (hn : h nid = none) : pushH [] nid (fun _ => none) h = h := by
  funext id
  unfold pushH
  cases hi : inside [] nid id with
  | none => rfl
  | some i =>
    have := inside_some hi
    simp [look] at this
    obtain ⟨-, e⟩ := this
    subst e
    simp [hn]

/-- A function that tells one thing and leaves nothing. -/
def AFun (P : Program) (f : FuncId) (args : List AV) (y : AV) : Prop :=
  ACalls P f 0 args (fun _ => none) (fun x h => x = y ∧ h = fun _ => none) (fun _ => False)

theorem CallK.fn {P : Program} {f : FuncId} {args largs : List AV} {nid : Nat} {h : AHeap} {K : AV → AHeap → Prop} {Kp : AV → Prop} {y : AV} (hcall : AFun P f largs y) (hc : callable P f = true)
    (hargs : normL args = largs) (hids : idsLtL 0 largs) (hy : idsLt 0 y) (hn : h nid = none) (hk : K y h) : CallK P f args nid h K Kp := by
  refine CallK.quiet hc hcall (fun _ _ hr => by rw [← hargs]; exact hr.norm) hids (fun z l' h1 _ => ?_) (fun x hx => hx.elim)
  obtain ⟨rfl, rfl⟩ := h1
  rw [ren_free _ _ hy, pushH_none nid h hn]
  exact hk

/-! ### Code, as what is still to be done -/

def ACs (P : Program) (nt m : Nat) : List Code → AQ → AEnv → AHeap → Nat → Prop
  | [], Q, env, h, nb => Q .normal env h nb
  | c :: cs, Q, env, h, nb => ACode P nt m c env h nb (thenA (ACs P nt m cs Q) Q)

section
variable {P : Program} {nt m nb : Nat} {env : AEnv} {h : AHeap} {Q : AQ} {cs : List Code}

theorem ACs_nil : ACs P nt m [] Q env h nb = Q .normal env h nb := rfl
theorem thenA_n {K : AEnv → AHeap → Nat → Prop} : thenA K Q .normal env h nb = K env h nb := rfl
theorem thenA_e {K : AEnv → AHeap → Nat → Prop} {id : Nat} : thenA K Q (.exit id) env h nb = Q (.exit id) env h nb := rfl
theorem thenA_r {K : AEnv → AHeap → Nat → Prop} : thenA K Q .ret env h nb = Q .ret env h nb := rfl
theorem thenA_p {K : AEnv → AHeap → Nat → Prop} {x : AV} : thenA K Q (.panic x) env h nb = Q (.panic x) env h nb := rfl
theorem blockA_n {id : Nat} : blockA id Q .normal env h nb = Q .normal env h nb := rfl
theorem blockA_e {id id' : Nat} : blockA id Q (.exit id') env h nb = if id' = id then Q .normal env h nb else Q (.exit id') env h nb := rfl
theorem blockA_r {id : Nat} : blockA id Q .ret env h nb = Q .ret env h nb := rfl
theorem blockA_p {id : Nat} {x : AV} : blockA id Q (.panic x) env h nb = Q (.panic x) env h nb := rfl

theorem cs_one {c : Code} (hc : ACs P nt m [c] Q env h nb) : ACode P nt m c env h nb Q := by
  refine ACode.mono hc fun x env h nb hq => ?_
  cases x <;> exact hq

theorem cs_seq {a b : Code} (hc : ACs P nt m (a :: b :: cs) Q env h nb) : ACs P nt m (.seq a b :: cs) Q env h nb := by
  refine c_seq fun K hK => ACode.mono hc fun x env h nb hq => ?_
  cases x with
  | normal => exact hK _ _ _ hq
  | _ => exact hq
theorem cs_skip (hc : ACs P nt m cs Q env h nb) : ACs P nt m (.skip :: cs) Q env h nb := c_skip hc
theorem cs_label {l : Nat} (hc : ACs P nt m cs Q env h nb) : ACs P nt m (.label l :: cs) Q env h nb := c_label hc
theorem cs_exit {id : Nat} (hq : Q (.exit id) env h nb) : ACs P nt m (.exit id :: cs) Q env h nb := c_exit hq
theorem cs_ret (hq : Q .ret env h nb) : ACs P nt m (.ret :: cs) Q env h nb := c_ret hq
theorem cs_scope {c : Code} (hc : ACs P nt m (c :: cs) Q env h nb) : ACs P nt m (.scope c :: cs) Q env h nb := c_scope hc
theorem cs_block {id : Nat} {c : Code} (hc : ACs P nt m [c] (blockA id (thenA (ACs P nt m cs Q) Q)) env h nb) : ACs P nt m (.block id c :: cs) Q env h nb := c_block (cs_one hc)

theorem cs_region {id : Nat} {ops : Array Oper} (hreg : regOK nt ops.toList = true)
    (hk : regK P (ops.toList.map (·.dst)) (fun env h => ACs P nt m cs Q env h (nb + ops.size)) (fun x => ∀ env h nb, Q (.panic x) env h nb) nb (strip ops.toList) env h) : ACs P nt m (.region id ops false :: cs) Q env h nb :=
  c_region hreg hk

def condK (P : Program) (nt m : Nat) (v : AV) (x y : Code) (cs : List Code) (Q : AQ) (env : AEnv) (h : AHeap) (nb : Nat) : Prop :=
  match v with
  | .p (.sc (.bool b)) => (b = true → ACs P nt m (x :: cs) Q env h nb) ∧ (b = false → ACs P nt m (y :: cs) Q env h nb)
  | _ => False

theorem cs_cond {c : Operand} {x y : Code} (hc : condK P nt m (ev env c) x y cs Q env h nb) : ACs P nt m (.cond c x y :: cs) Q env h nb := by
  unfold condK at hc
  split at hc
  · rename_i b hb; exact c_cond hb hc.1 hc.2
  · exact hc.elim

theorem condK_t {x y : Code} : condK P nt m (.p (.sc (.bool true))) x y cs Q env h nb = ACs P nt m (x :: cs) Q env h nb := by simp [condK]
theorem condK_f {x y : Code} : condK P nt m (.p (.sc (.bool false))) x y cs Q env h nb = ACs P nt m (y :: cs) Q env h nb := by simp [condK]
theorem condK_b {x y : Code} {b : Bool} (ht : b = true → ACs P nt m (x :: cs) Q env h nb) (hf : b = false → ACs P nt m (y :: cs) Q env h nb) : condK P nt m (.p (.sc (.bool b))) x y cs Q env h nb := ⟨ht, hf⟩
theorem condK_d {x y : Code} {p : Prop} [Decidable p] (ht : p → ACs P nt m (x :: cs) Q env h nb) (hf : ¬ p → ACs P nt m (y :: cs) Q env h nb) : condK P nt m (.p (.sc (.bool (decide p)))) x y cs Q env h nb :=
  ⟨fun e => ht (of_decide_eq_true e), fun e => hf (of_decide_eq_false e)⟩

theorem cs_loop {c : Code} {ι : Type} (le : ι → List (Nat × AV)) (lh : ι → List (Nat × Ck)) (n : Nat) (I : ι → Prop) (μ : ι → Nat)
    (i0 : ι) (hi0 : I i0) (h0 : ∃ ρ, WeakR m ρ n ((lh i0).map (·.1)) ∧ AllE ρ n env (le i0) ∧ AllH ρ n h (lh i0))
    (round : ∀ i, I i → ACs P nt m [c] (thenA (fun env h nb => ∃ j, (I j ∧ μ j < μ i) ∧ ∃ ρ, WeakR m ρ n ((lh j).map (·.1)) ∧ AllE ρ n env (le j) ∧ AllH ρ n h (lh j)) (thenA (ACs P nt m cs Q) Q)) (mkE (le i)) (mkH (lh i)) n) :
    ACs P nt m (.loop c :: cs) Q env h nb := c_loop_at le lh n I μ i0 hi0 h0 (fun i hi => cs_one (round i hi))

theorem cs_weak (ρ : Nat → Nat) (le : List (Nat × AV)) (lh : List (Nat × Ck)) (nb' : Nat) (hr : WeakR m ρ nb' (lh.map (·.1))) (he : AllE ρ nb' env le) (hh : AllH ρ nb' h lh) {c : Code}
    (hc : ACs P nt m (c :: cs) Q (mkE le) (mkH lh) nb') : ACs P nt m (c :: cs) Q env h nb := c_weak ρ le lh nb' hr he hh hc
theorem cs_freeze {c : Code} (id : Nat) {e : TypeId} {sz : Nat} {rows : List (List PV)} (hid : h id = some (.arr e sz rows)) (hc : ACs P nt m (c :: cs) Q env (upd h id (some (.fz rows))) nb) : ACs P nt m (c :: cs) Q env h nb := c_freeze id hid hc
theorem cs_frozen {c : Code} (k : Nat) {id n : Nat} {rows : List (List PV)} (hk : env k = .ref id n) (hid : h id = some (.fz rows)) (hn : rows.length = n) (hc : ACs P nt m (c :: cs) Q (upd env k (.p (.fro rows))) h nb) : ACs P nt m (c :: cs) Q env h nb := c_frozen k hk hid hn hc
theorem cs_frozen_cell {c : Code} (b j : Nat) {t : TypeId} {cells : List AV} {id n : Nat} {rows : List (List PV)} (hb : h b = some (.box t cells)) (hj : cells[j]? = some (.ref id n)) (hid : h id = some (.fz rows)) (hn : rows.length = n)
    (hc : ACs P nt m (c :: cs) Q env (upd h b (some (.box t (cells.set j (.p (.fro rows)))))) nb) : ACs P nt m (c :: cs) Q env h nb := c_frozen_cell b j hb hj hid hn hc
theorem cs_adopt {c : Code} (k : Nat) (e : TypeId) (sz : Nat) (hk : env k = .nil) (hc : ACs P nt m (c :: cs) Q (upd env k (.ref nb 0)) (upd h nb (some (.arr e sz []))) (nb + 1)) : ACs P nt m (c :: cs) Q env h nb := c_adopt k e sz hk hc

omit env h Q nb in
theorem acalls_body {f : FuncId} {fn : Func} {c : Code} {args : List AV} {H : AHeap} {R : AV → AHeap → Prop} {Rp : AV → Prop} (hf : P.funcs[f]? = some fn) (hb : fn.body = some c) (hnt : fn.ntmps = nt) (hlen : args.length ≤ nt)
    (hc : ACs P nt m [c] (RetQ P m fn.results.toList R Rp) (envA args) H m) : ACalls P f m args H R Rp :=
  acalls_of_body hf hb hnt hlen (fun _ _ => trivial) (cs_one hc)

/-- The end of a function that tells one thing and leaves nothing. -/
def retK (r : Option (List AV)) (y : AV) : Prop :=
  match r with
  | some l => norm (oneA l) = y ∧ idsLt 0 y
  | none => False

theorem ret_fn {res : List ResultVar} {y : AV} {Rp : AV → Prop} (hr : retK (resA P env h res) y) : RetQ P 0 res (fun x h => x = y ∧ h = fun _ => none) Rp .ret env h nb := by
  unfold retK at hr
  split at hr
  · rename_i l hl
    obtain ⟨hy, hi⟩ := hr
    exact ⟨l, hl, ⟨fun i => i, y, [], ⟨fun _ h => absurd h (by omega), fun _ _ _ _ h => h, Nat.zero_le _⟩, .inr (.inr ⟨hy, hi⟩), trivial, ids_up y hi, rfl, rfl⟩⟩
  · exact hr.elim
where
  ids_up : ∀ y : AV, idsLt 0 y → idsLt 1 y
    | .any, _ | .nil, _ | .p _, _ | .rpt _ _, _ => trivial
    | .ptr id _, h | .ref id _, h | .apt id _ _ _, h => by simp [idsLt] at h
    | .fn f xs, h => ids_upL xs h
    | .agg xs, h => ids_upL xs h
    | .tup xs, h => ids_upL xs h
  ids_upL : ∀ xs : List AV, idsLtL 0 xs → idsLtL 1 xs
    | [], _ => trivial
    | x :: xs, h => ⟨ids_up x h.1, ids_upL xs h.2⟩
end

theorem w_i64 {n : Int} (h1 : -9223372036854775808 ≤ n) (h2 : n ≤ 9223372036854775807) : IntKind.i64.wrap n = n := by rw [IntKind.wrap_i64]; omega
theorem w_i32 {n : Int} (h1 : -2147483648 ≤ n) (h2 : n ≤ 2147483647) : IntKind.i32.wrap n = n := by rw [IntKind.wrap_i32]; omega
theorem getD_map {α β : Type} [Inhabited α] (f : α → β) (l : List α) (k : Nat) (d : β) (h : k < l.length) : (l.map f).getD k d = f (l.getD k default) := by
  simp [h]

attribute [push_cast] Option.isSome_some List.length_map Option.isSome_none
attribute [push_cast] argAt List.map_cons List.map_nil List.getElem?_cons_zero List.getElem?_cons_succ List.getElem?_nil List.length_cons List.length_nil List.size_toArray List.take_succ_cons List.take_zero List.drop_succ_cons List.drop_zero List.cons_append List.nil_append List.append_nil
  List.all_cons List.all_nil List.set_cons_zero List.set_cons_succ List.take_nil List.drop_nil
attribute [push_cast] upd_at regK_nil contK_some regK_move regK_assign regK_pick regK_alloc regK_box regK_build regK_buildSlice regK_load regK_store regK_nilCheck regK_binOp regK_unOp regK_convert regK_makeFunc regK_makeSlice regK_slice regK_fieldAddr regK_field regK_indexAddr regK_index regK_extract regK_builtin regK_grd grdK_tt grdK_ff grdK_tf grdK_ft eqIs setY yld yldV_bool yldV_tuple setV_bool setV_tuple strip putE ev cst cst1 aop builtinS binS abinS abin envA isPtr cellsL cellB pvs toPV loadS takeS storeS idxS indexS offA
  afill rowsOf srcRows sliceS bnd mkE mkH ACs_nil thenA_n thenA_e thenA_r thenA_p blockA_n blockA_e blockA_r blockA_p condK_t condK_f resA oneA AVLe idsLt idsLtL AllE AllH idsLtCk renCk ren renL norm normL retK

end Go.Ab
