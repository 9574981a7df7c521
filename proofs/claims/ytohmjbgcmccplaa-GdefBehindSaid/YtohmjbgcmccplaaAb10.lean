/- Contracts of functions over abstract values, and a call by a contract. No condition. -/
import Derived.Test.YtohmjbgcmccplaaAb9
set_option linter.unusedVariables false
set_option linter.unusedSimpArgs false
namespace Go.Ab
open Go

mutual
theorem ren_id : ∀ x : AV, ren (fun i => i) x = x
  | .any | .nil | .p _ | .ptr _ _ | .ref _ _ | .apt _ _ _ _ | .rpt _ _ => rfl
  | .fn f xs => by rw [ren, renL_id xs]
  | .agg xs => by rw [ren, renL_id xs]
  | .tup xs => by rw [ren, renL_id xs]
theorem renL_id : ∀ xs : List AV, renL (fun i => i) xs = xs
  | [] => rfl
  | x :: xs => by rw [renL, ren_id x, renL_id xs]
end

theorem Rep.free {E F : Env} {x : AV} {v : Value} (h : Rep E x v) (hI : ILe E.I F.I) (hi : idsLt 0 x) : Rep F x v := by
  have := h.push (F := F) (ρ := fun i => i) (m := 0) hI (fun id hid => absurd hid (by omega)) hi
  rwa [ren_id] at this

/-- What a function leaves: its result and the chunks handed over, and at most one new one. -/
structure Tidy (m : Nat) (x : AV) (h : AHeap) : Prop where
  x : idsLt (m + 1) x
  none : ∀ id, m < id → h id = none
  ck : ∀ id, idsLtCk (m + 1) (h id)

/-- One panic of its own. -/
def pan (v : Value) : List PanicEntry := [{ v, recovered := false }]

def APost (m : Nat) (E : Env) (H : AHeap) (w : World) (R : AV → AHeap → Prop) (Rp : AV → Prop) (e : Ending) (w' : World) : Prop :=
  (∃ v E' x h', e = .returned v ∧ Rep E' x v ∧ R x h' ∧ Tidy m x h' ∧ WOK E' h' w' ∧ Evol m E H w E' h' w') ∨
  (∃ v E' x, e = .panicked (pan v) ∧ Rep E' x v ∧ Rp x ∧ idsLt 0 x ∧ WOK E' (fun _ => Option.none) w' ∧ Evol m E H w E' (fun _ => Option.none) w')

def ACalls (P : Program) (f : FuncId) (m : Nat) (args : List AV) (H : AHeap) (R : AV → AHeap → Prop) (Rp : AV → Prop) : Prop :=
  ∀ (E : Env) (w : World) (vs : Array Value), WOK E H w → (∀ id, m ≤ id → E.ch id = .unborn) → RepL E args vs.toList → Calls P f vs w (APost m E H w R Rp)

theorem ACalls.mono {P : Program} {f : FuncId} {m : Nat} {args : List AV} {H : AHeap} {R R' : AV → AHeap → Prop} {Rp Rp' : AV → Prop} (hc : ACalls P f m args H R Rp)
    (h : ∀ x h, R x h → R' x h) (hp : ∀ x, Rp x → Rp' x) : ACalls P f m args H R' Rp' := by
  intro E w vs hw hf hr
  refine (hc E w vs hw hf hr).mono fun e w' he => ?_
  rcases he with ⟨v, E', x, h', e1, e2, e3, e4⟩ | ⟨v, E', x, e1, e2, e3, e4⟩
  · exact .inl ⟨v, E', x, h', e1, e2, h _ _ e3, e4⟩
  · exact .inr ⟨v, E', x, e1, e2, hp _ e3, e4⟩

/-- One operation's way on. -/
def OpGo (P : Program) (nid : Nat) (E : Env) (h : AHeap) (w : World) (o : Oper) (a : Act) (K : AV → AHeap → Prop) (Kp : AV → Prop) : Prop :=
  ∀ (next : Act → World → Prop) (Q : Exit → Act → World → Prop),
    (∀ val w' E' x h', K x h' → Rep E' x val → EStep nid E E' → WOK E' h' w' → Moved E h w E' h' w' → next (a.put o.dst val) w') →
    (∀ v w' E' x h', Kp x → Rep E' x v → idsLt 0 x → EStep nid E E' → WOK E' h' w' → Moved E h w E' h' w' → (∀ id, h id = none → h' id = none) → Q (.panic (pan v)) a w') →
    o.wp P a w next Q

theorem OpSim.go {P : Program} {nid : Nat} {E : Env} {h : AHeap} {w : World} {o : Oper} {a : Act} {x : AV} {h' : AHeap} {K : AV → AHeap → Prop} {Kp : AV → Prop} (hs : OpSim P nid E h w o a x h') (hk : K x h') :
    OpGo P nid E h w o a K Kp := by
  intro next Q hn _
  obtain ⟨val, w', E', hr, h1, h2, h3, h4⟩ := hs
  unfold Oper.wp
  rcases hr with hr | ⟨hr, hv⟩
  · rw [hr]; exact hn val w' E' x h' hk h1 h2 h3 h4
  · rw [hr]
    have := hn val w' E' x h' hk h1 h2 h3 h4
    rw [hv] at this
    exact this

def callable (P : Program) (f : FuncId) : Bool :=
  match P.funcs[f]? with
  | some fn => fn.body.isSome && fn.name != "runtime.NumGoroutine"
  | none => false

theorem run_callFunc {P : Program} {f : FuncId} (h : callable P f = true) (args : Array Value) (w : World) : (callFunc f args).run P w = .ok (.enter f args) w := by
  unfold callable at h
  split at h
  · rename_i fn hf
    simp only [Bool.and_eq_true, bne_iff_ne, ne_eq] at h
    obtain ⟨h1, h2⟩ := h
    have hb : fn.body ≠ none := by intro e; rw [e] at h1; cases h1
    have hp : (program : Sem Program).run P w = .ok P w := rfl
    unfold callFunc
    rw [Sem.run_bind, hp]
    simp [hf, h2, hb]
  · cases h

/-- The callee, and what it is handed behind the operands. -/
def calleeA (env : AEnv) (x : Operand) : Option (FuncId × List AV) :=
  match ev env x with
  | .fn f caps => some (f, caps)
  | _ => none

theorem run_call {P : Program} {E : Env} {env : AEnv} {w : World} {o : Oper} {a : Act} {fo : Operand} {args : Array Operand} {ats : Array TypeId} {f : FuncId} {caps : List AV}
    (henv : ∀ k, Rep E (env k) (a.tmps.getD k undef)) (ho : o.op = .call { callee := .value fo, args, argTypes := ats }) (hf : calleeA env fo = some (f, caps)) (hc : callable P f = true) :
    ∃ vs : Array Value, (execOp a.eval o).run P w = .ok (.enter f vs) w ∧ RepL E (args.toList.map (ev env) ++ caps) vs.toList := by
  have hr := Rep.ev henv fo
  unfold calleeA at hf
  split at hf
  · rename_i f' caps' he
    injection hf with hf
    injection hf with hf1 hf2
    subst hf1; subst hf2
    rw [he] at hr
    obtain ⟨vs, e1, hl⟩ : ∃ vs, a.eval fo = .func (.func f') #[] vs ∧ RepL E caps' vs.toList := by
      generalize a.eval fo = v at hr
      cases hr with
      | fn vs hs u hu hh =>
        refine ⟨vs, rfl, by simp [hs], fun i x hx => ⟨u i, ?_, hh i x hx⟩⟩
        have := hu i (List.getElem?_eq_some_iff.1 hx).1
        simpa using this
    refine ⟨args.map a.eval ++ vs, ?_, ?_⟩
    · have := run_callFunc (P := P) hc (args.map a.eval ++ vs) w
      simp [execOp, ho, resolve, e1, Deferred.ofValue, invoke, this]
    · refine ⟨by simp [hl.1], fun i x hx => ?_⟩
      by_cases hi : i < args.size
      · rw [List.getElem?_append_left (by simpa using hi)] at hx
        simp only [List.getElem?_map, Array.getElem?_toList, Array.getElem?_eq_getElem hi, Option.map_some, Option.some.injEq] at hx
        subst hx
        refine ⟨a.eval args[i], ?_, Rep.ev henv _⟩
        simp [Array.toList_append, List.getElem?_append_left, hi]
      · rw [List.getElem?_append_right (by simpa using hi)] at hx
        obtain ⟨u, hu, hh⟩ := hl.2 _ x hx
        refine ⟨u, ?_, hh⟩
        rw [Array.toList_append, List.getElem?_append_right (by simpa using hi)]
        simpa using hu
  · cases hf

section
variable {P : Program} {nid : Nat} {E : Env} {h : AHeap} {w : World} {o : Oper} {a : Act} {env : AEnv}

theorem call_go {fo : Operand} {args : Array Operand} {ats : Array TypeId} {f : FuncId} {caps largs : List AV} {l : AHeap} {rs : List Nat} {R : AV → AHeap → Prop} {Rp : AV → Prop}
    (hw : WOK E h w) (henv : ∀ k, Rep E (env k) (a.tmps.getD k undef)) (hu : E.ch nid = .unborn) (hnid : h nid = none)
    (ho : o.op = .call { callee := .value fo, args, argTypes := ats }) (hf : calleeA env fo = some (f, caps)) (hc : callable P f = true)
    (hcall : ACalls P f rs.length largs l R Rp)
    (hargs : ∀ vs : List Value, RepL E (args.toList.map (ev env) ++ caps) vs → RepL E (renL (look rs nid) largs) vs) (hids : idsLtL rs.length largs)
    (hd : rs.Nodup) (hnm : nid ∉ rs) (hl : ∀ i, i < rs.length → l i ≠ none ∧ h (look rs nid i) = (l i).map (renCk (look rs nid))) (hln : ∀ i, rs.length ≤ i → l i = none) (hlid : ∀ i, idsLtCk rs.length (l i)) :
    OpGo P nid E h w o a (fun x h' => ∃ y l', R y l' ∧ Tidy rs.length y l' ∧ x = ren (look rs nid) y ∧ h' = pushH rs nid l' h) Rp := by
  intro next Q hnext hpan
  obtain ⟨vs, hrun, hrep⟩ := run_call (P := P) (w := w) henv ho hf hc
  have hrep2 := hargs _ hrep
  have inj : ∀ i j, i < rs.length → j < rs.length → i ≠ j → look rs nid i ≠ look rs nid j := by
    intro i j hi hj hij e
    have h1 := inside_look hd hnm (Nat.le_of_lt hi)
    have h2 := inside_look hd hnm (Nat.le_of_lt hj)
    rw [e, h2] at h1
    injection h1 with h1
    exact hij h1.symm
  let E0 := pull (look rs nid) rs.length E
  have hw0 : WOK E0 l w := hw.pull (fun i hi => .inr (hl i hi).2) hln hlid (fun i j hi hj => inj i j (Nat.lt_of_not_le fun h => hi (hln i h)) (Nat.lt_of_not_le fun h => hj (hln j h)))
  have hrl : RepL E0 largs vs.toList := by
    refine ⟨by have := hrep2.1; rw [renL_eq] at this; simpa using this, fun i x hx => ?_⟩
    obtain ⟨v, hv, hr⟩ := hrep2.2 i (ren (look rs nid) x) (by rw [renL_eq]; simp [hx])
    exact ⟨v, hv, hr.pull x rfl ((idsLtL_iff _ _).1 hids x (List.mem_of_getElem? hx))⟩
  have hcalls := hcall E0 w vs hw0 (fun id hid => by simp [E0, pull, Nat.not_lt.2 hid]) hrl
  have hown : ∀ g, own E0 l g → ∃ i, i < rs.length ∧ Ck.owned (h (look rs nid i)) = true ∧ (E.ch (look rs nid i)).block = some g := fun g hg => own_pull (fun i hi => .inr (hl i hi).2) hln hg
  have hown' : ∀ g, own E0 l g → own E h g := fun g hg => let ⟨i, _, h1, h2⟩ := hown g hg; ⟨_, h1, h2⟩
  have hborn : ∀ i, i < rs.length → E.ch (look rs nid i) ≠ .unborn := by
    intro i hi
    have := hw.ck (look rs nid i)
    rw [(hl i hi).2] at this
    cases hli : l i with
    | none => exact absurd hli (hl i hi).1
    | some ck => rw [hli] at this; exact this.born
  -- what the caller sees behind the call
  have back : ∀ (E1 : Env) (l' : AHeap) (w' : World), WOK E1 l' w' → Evol rs.length E0 l w E1 l' w' → (∀ id, rs.length < id → l' id = none) → (∀ id, idsLtCk (rs.length + 1) (l' id)) →
      ∃ E2 : Env, E2.I = E1.I ∧ (∀ i, i ≤ rs.length → E2.ch (look rs nid i) = E1.ch i) ∧ EStep nid E E2 ∧ WOK E2 (pushH rs nid l' h) w' ∧ Moved E h w E2 (pushH rs nid l' h) w' := by
    intro E1 l' w' hw1 hev hno hids1
    let E2 : Env := { I := E1.I, ch := pushCh rs nid E1.ch E.ch }
    have hlook : ∀ i, i ≤ rs.length → E2.ch (look rs nid i) = E1.ch i := fun i hi => by show pushCh rs nid E1.ch E.ch _ = _; unfold pushCh; rw [inside_look hd hnm hi]
    have hst : EStep nid E E2 := by
      refine ⟨hev.I, fun id hid => ?_⟩
      show pushCh rs nid E1.ch E.ch id = _ ∨ _
      cases hin : inside rs nid id with
      | none => left; unfold pushCh; rw [hin]
      | some i =>
        obtain ⟨hi, e⟩ := inside_some hin
        have hi' : i < rs.length := by
          rcases Nat.lt_or_ge i rs.length with h1 | h1
          · exact h1
          · have : i = rs.length := by omega
            subst this
            simp [look] at e
            exact absurd e.symm hid
        have e1 : pushCh rs nid E1.ch E.ch id = E1.ch i := by unfold pushCh; rw [hin]
        have e0 : E0.ch i = E.ch id := by rw [← e]; exact pull_ch hi'
        rcases hev.ch i hi' with h1 | h1
        · left; rw [e1, h1, e0]
        · right; refine ⟨?_, by rw [← e]; exact hborn i hi'⟩
          show pushCh rs nid E1.ch E.ch id = _
          rw [e1, h1]
    have hle := hst.le hu
    have hnotown : ∀ id, inside rs nid id = none → Ck.owned (h id) = true → ∀ g, (E.ch id).block = some g → ¬ own E0 l g := by
      intro id hin ho g hg hg0
      obtain ⟨i, hi, h1, h2⟩ := hown g hg0
      have hne : id ≠ look rs nid i := by
        intro e
        rw [e, inside_look hd hnm (Nat.le_of_lt hi)] at hin
        cases hin
      exact hw.dist id _ g hne ho h1 hg h2
    refine ⟨E2, rfl, hlook, hst, ⟨hw1.imm, fun id => ?_, fun id id' g hij h1 h2 e1 => ?_⟩, ⟨hev.size, fun g hg hn => hev.frame g hg (fun ho => hn (hown' g ho)), fun g ob e => ?_, fun g e => ?_, hev.same⟩⟩
    · show CkOK E2 w' (pushCh rs nid E1.ch E.ch id) (pushH rs nid l' h id)
      unfold pushCh pushH
      cases hin : inside rs nid id with
      | none =>
        simp only []
        have hi := inside_none hin
        refine (hw.ck id).keep hle (fun h1 g e1 => hev.frame g ((hw.ck id).there h1 e1) (hnotown id hin h1 g e1)) (fun h1 g e1 => ?_)
        show E1.I g = none
        cases hI : E1.I g with
        | none => rfl
        | some ob =>
          rcases hev.imm g ob hI with q | q | q
          · have := (hw.ck id).immNone h1 e1
            rw [show E0.I g = E.I g from rfl, this] at q; cases q
          · have := (hw.ck id).there h1 e1; omega
          · exact absurd q (hnotown id hin h1 g e1)
      | some i =>
        simp only []
        obtain ⟨hi, e⟩ := inside_some hin
        have hk := hw1.ck i
        have hidk := hids1 i
        generalize l' i = ck at hk hidk
        match ck, hk with
        | none, _ => trivial
        | some (.box t cells), ⟨g, vs, e1, hg, hs, hcl, hn⟩ =>
          simp only [idsLtCk, idsLtL_iff] at hidk
          refine ⟨g, vs, e1, hg, by rw [renL_eq]; simpa using hs, fun j x hx => ?_, hn⟩
          rw [renL_eq] at hx
          simp only [List.getElem?_map] at hx
          cases hy : cells[j]? with
          | none => rw [hy] at hx; cases hx
          | some y =>
            rw [hy] at hx
            injection hx with hx
            subst hx
            obtain ⟨v, hv, hr⟩ := hcl j y hy
            exact ⟨v, hv, Rep.push (E := E1) (F := E2) (ρ := look rs nid) (m := rs.length + 1) (ILe.refl E1.I) (fun i hi => hlook i (by omega)) hr (hidk y (List.mem_of_getElem? hy))⟩
        | some (.arr e sz rows), ⟨v, e1, ha⟩ => exact ⟨v, e1, ha⟩
        | some (.fz rows), ⟨v, e1, ha⟩ => exact ⟨v, e1, ha⟩
    · replace e1 : (pushCh rs nid E1.ch E.ch id).block = some g := e1
      show (pushCh rs nid E1.ch E.ch id').block ≠ some g
      unfold pushCh pushH at *
      cases hin : inside rs nid id with
      | none =>
        simp only [hin] at h1 e1
        cases hin' : inside rs nid id' with
        | none =>
          simp only [hin'] at h2 ⊢
          exact hw.dist id id' g hij h1 h2 e1
        | some j =>
          simp only [hin', owned_ren] at h2 ⊢
          intro e2
          rcases hev.owned g ⟨j, h2, e2⟩ with q | q
          · have := (hw.ck id).there h1 e1; omega
          · exact hnotown id hin h1 g e1 q
      | some i =>
        simp only [hin, owned_ren] at h1 e1
        cases hin' : inside rs nid id' with
        | none =>
          simp only [hin'] at h2 ⊢
          intro e2
          rcases hev.owned g ⟨i, h1, e1⟩ with q | q
          · have := (hw.ck id').there h2 e2; omega
          · exact hnotown id' hin' h2 g e2 q
        | some j =>
          simp only [hin', owned_ren] at h2 ⊢
          refine hw1.dist i j g (fun e => ?_) h1 h2 e1
          subst e
          have := (inside_some hin).2
          have := (inside_some hin').2
          omega
    · rcases hev.imm g ob e with q | q | q
      · exact .inl q
      · exact .inr (.inl q)
      · exact .inr (.inr (hown' g q))
    · obtain ⟨id, h1, h2⟩ := e
      replace h2 : (pushCh rs nid E1.ch E.ch id).block = some g := h2
      unfold pushCh at h2
      unfold pushH at h1
      cases hin : inside rs nid id with
      | none => simp only [hin] at h1 h2; exact .inr ⟨id, h1, h2⟩
      | some i =>
        simp only [hin, owned_ren] at h1 h2
        rcases hev.owned g ⟨i, h1, h2⟩ with q | q
        · exact .inl q
        · exact .inr (hown' g q)
  unfold Oper.wp
  rw [hrun, Oper.upon_enter]
  refine hcalls.mono fun e w' he => ?_
  rcases he with ⟨v, E1, y, l', rfl, hr, hR, ht, hw1, hev⟩ | ⟨v, E1, y, rfl, hr, hR, hi0, hw1, hev⟩
  · obtain ⟨E2, q1, q2, q3, q4, q5⟩ := back E1 l' w' hw1 hev ht.none ht.ck
    refine hnext v w' E2 _ _ ⟨y, l', hR, ht, rfl, rfl⟩ ?_ q3 q4 q5
    exact hr.push (F := E2) (ρ := look rs nid) (m := rs.length + 1) (by rw [q1]; exact .refl _) (fun i hi => q2 i (by omega)) ht.x
  · obtain ⟨E2, q1, q2, q3, q4, q5⟩ := back E1 (fun _ => none) w' hw1 hev (fun _ _ => rfl) (fun _ => trivial)
    have hI : ILe E1.I E2.I := by rw [q1]; exact .refl _
    refine hpan v w' E2 y _ hR (hr.free hI hi0) hi0 q3 q4 q5 (fun id hid => ?_)
    unfold pushH
    cases hin : inside rs nid id with
    | none => exact hid
    | some i => rfl
end

end Go.Ab
