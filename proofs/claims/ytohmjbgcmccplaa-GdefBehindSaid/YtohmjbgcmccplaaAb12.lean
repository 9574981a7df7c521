/- Regions and code over abstract states. No condition. -/
import Derived.Test.YtohmjbgcmccplaaAb11
import Derived.Scope
set_option linter.unusedVariables false
set_option linter.unusedSimpArgs false
namespace Go.Ab
open Go

/-! ### A region, operation by operation, in the order of the text -/

structure SOp where
  dst : Option Tmp
  op : Op
  guard : Option (Nat × Bool)

def strip (ops : List Oper) : List SOp := ops.map fun o => ⟨o.dst, o.op, o.guard⟩

def putE (env : AEnv) (d : Option Tmp) (x : AV) : AEnv :=
  match d with
  | some d => upd env d x
  | none => env

def yldV (want : Bool) : AV → Option Bool
  | .p (.sc (.bool b)) => some b
  | .p (.sc (.tuple _)) => some (!want)
  | _ => none

def yld (ds : List (Option Tmp)) (env : AEnv) (j : Nat) (want : Bool) : Option Bool :=
  match ds[j]? with
  | some (some d) => yldV want (env d)
  | _ => none

theorem yldV_bool (want b : Bool) : yldV want (.p (.sc (.bool b))) = some b := rfl
theorem yldV_tuple (want : Bool) (vs : Array Value) : yldV want (.p (.sc (.tuple vs))) = some (!want) := rfl

def isCall : Op → Bool
  | .move _ | .assign _ | .pick _ _ _ | .alloc _ | .box _ _ | .build _ _ | .buildSlice _ _ _ | .insert _ _ _ _ | .load _ _ | .store _ _ _ | .ready _ | .waits _ | .nilCheck _ | .binOp _ _ _ _ _ | .unOp _ _ _
  | .convert _ _ _ | .sliceToArrayPointer _ _ | .makeInterface _ _ | .makeFunc _ _ _ | .makeMap _ _ | .makeChan _ _ | .makeSlice _ _ _ | .slice _ _ _ _ _ | .fieldAddr _ _ _ | .field _ _ _ | .indexAddr _ _ _ | .index _ _ _
  | .lookup _ _ _ _ | .mapUpdate _ _ _ _ | .mapEntry _ _ _ | .entryStore _ _ _ _ | .range _ _ | .next _ _ | .entry _ | .typeAssert _ _ _ _ | .extract _ _ | .go _ | .defer _ | .send _ _ | .recv _ _ _ | .select _ _ => false
  | .call { callee := .builtin _, .. } => false
  | .call { callee := .value _, .. } => true
  | .call { callee := .invoke _ _, .. } => false
  | .panic _ => true

/-- One call of a function by its contract. -/
def CallK (P : Program) (f : FuncId) (args : List AV) (nid : Nat) (h : AHeap) (K : AV → AHeap → Prop) (Kp : AV → Prop) : Prop :=
  callable P f = true ∧ ∃ (rs : List Nat) (largs : List AV) (l : AHeap) (R : AV → AHeap → Prop) (Rp : AV → Prop),
    ACalls P f rs.length largs l R Rp ∧ (∀ (E : Env) (vs : List Value), RepL E args vs → RepL E (renL (look rs nid) largs) vs) ∧ idsLtL rs.length largs ∧ rs.Nodup ∧ nid ∉ rs ∧
    (∀ i, i < rs.length → l i ≠ none ∧ h (look rs nid i) = (l i).map (renCk (look rs nid))) ∧ (∀ i, rs.length ≤ i → l i = none) ∧ (∀ i, idsLtCk rs.length (l i)) ∧
    (∀ y l', R y l' → Tidy rs.length y l' → K (ren (look rs nid) y) (pushH rs nid l' h)) ∧ ∀ x, Rp x → Kp x

def exec1 (P : Program) (nid : Nat) (env : AEnv) (h : AHeap) (op : Op) (K : AV → AHeap → Prop) (Kp : AV → Prop) : Prop :=
  match op with
  | .call { callee := .value fo, args, .. } => match calleeA env fo with
    | some (f, caps) => CallK P f (args.toList.map (ev env) ++ caps) nid h K Kp
    | none => False
  | .panic x => match ev env x with
    | .p (.sc (.iface t v)) => Kp (.p (.sc (.iface t v)))
    | _ => False
  | op => match aop P nid env h op with
    | some (s, x, h') => s ∧ K x h'
    | none => False

def regK (P : Program) (ds : List (Option Tmp)) (K : AEnv → AHeap → Prop) (Kp : AV → Prop) : Nat → List SOp → AEnv → AHeap → Prop
  | _, [], env, h => K env h
  | nid, o :: l, env, h => match o.guard with
    | none => exec1 P nid env h o.op (fun x h' => regK P ds K Kp (nid + 1) l (putE env o.dst x) h') Kp
    | some (j, want) => match yld ds env j want with
      | some b => (b = want → exec1 P nid env h o.op (fun x h' => regK P ds K Kp (nid + 1) l (putE env o.dst x) h') Kp) ∧
          (b ≠ want → regK P ds K Kp (nid + 1) l (putE env o.dst (.p (.sc (.tuple #[])))) h)
      | none => False

/-- What binds an abstract state to a frame and a world. -/
structure Sim (nt : Nat) (E : Env) (env : AEnv) (h : AHeap) (nb : Nat) (a : Act) (w : World) : Prop where
  ok : WOK E h w
  env : ∀ k, Rep E (env k) (a.tmps.getD k undef)
  fresh : ∀ id, nb ≤ id → E.ch id = .unborn
  size : a.tmps.size = nt
  defers : a.defers = []

theorem put_env {E E' : Env} {env : AEnv} {a : Act} {d : Option Tmp} {x : AV} {v : Value} (hE : ELe E E') (h : ∀ k, Rep E (env k) (a.tmps.getD k undef)) (hx : Rep E' x v) (hd : ∀ t, d = some t → t < a.tmps.size) :
    ∀ k, Rep E' (putE env d x k) ((a.put d v).tmps.getD k undef) := by
  intro k
  cases d with
  | none => exact (h k).mono hE
  | some d =>
    have hlt := hd d rfl
    show Rep E' (upd env d x k) ((a.tmps.setIfInBounds d v).getD k undef)
    by_cases e : k = d
    · subst e
      rw [upd_same]
      simpa [hlt] using hx
    · rw [upd_other _ _ e]
      have : (a.tmps.setIfInBounds d v).getD k undef = a.tmps.getD k undef := by
        simp [Array.getD_eq_getD_getElem?, Array.getElem?_setIfInBounds, Ne.symm e]
      rw [this]
      exact (h k).mono hE

theorem put_size (a : Act) (d : Option Tmp) (v : Value) : (a.put d v).tmps.size = a.tmps.size := by cases d <;> simp [Act.put]
theorem put_defers (a : Act) (d : Option Tmp) (v : Value) : (a.put d v).defers = a.defers := by cases d <;> rfl

def regOK (nt : Nat) (ops : List Oper) : Bool := ops.all fun o => match o.dst with
  | some d => decide (d < nt)
  | none => true

theorem yld_spec {E : Env} {env : AEnv} {a : Act} {ops : Array Oper} {j : Nat} {b want : Bool} {nt : Nat} (henv : ∀ k, Rep E (env k) (a.tmps.getD k undef)) (hs : a.tmps.size = nt) (hreg : regOK nt ops.toList = true)
    (h : yld (ops.toList.map (·.dst)) env j want = some b) : (yielded ops a.tmps j == some want) = (b == want) := by
  unfold yld at h
  split at h
  · rename_i d hd
    simp only [List.getElem?_map, Array.getElem?_toList] at hd
    cases ho : ops[j]? with
    | none => rw [ho] at hd; cases hd
    | some o =>
      rw [ho] at hd
      simp only [Option.map_some, Option.some.injEq] at hd
      have hmem : o ∈ ops.toList := by simpa using Array.mem_of_getElem? ho
      have hdl : (match o.dst with | some d => decide (d < nt) | none => true) = true := List.all_eq_true.1 hreg o hmem
      rw [hd] at hdl
      have hdl := of_decide_eq_true hdl
      have hlt : d < a.tmps.size := by rw [hs]; exact hdl
      have hr := henv d
      have hv2 : ∀ v, env d = .p (.sc v) → a.tmps[d]? = some v := fun v hb => by
        rw [hb] at hr
        have hv := hr.sc_inv
        rw [Array.getElem?_eq_getElem hlt]
        congr 1
        simpa [hlt] using hv
      unfold yielded
      rw [ho]
      simp only [Option.bind_some, hd]
      unfold yldV at h
      split at h
      · rename_i b' hb
        injection h with h
        subst h
        rw [hv2 _ hb]
        cases b' <;> cases want <;> rfl
      · rename_i vs hb
        injection h with h
        subst h
        rw [hv2 _ hb]
        cases want <;> rfl
      · cases h
  · cases h

section
variable {P : Program}

theorem exec1_go {nid : Nat} {E : Env} {h : AHeap} {w : World} {o : Oper} {a : Act} {env : AEnv} {K : AV → AHeap → Prop} {Kp : AV → Prop} (hw : WOK E h w) (henv : ∀ k, Rep E (env k) (a.tmps.getD k undef)) (hu : E.ch nid = .unborn)
    (hx : exec1 P nid env h o.op K Kp) : OpGo P nid E h w o a K Kp := by
  have hnid : h nid = none := by
    cases hh : h nid with
    | none => rfl
    | some ck => have := hw.ck nid; rw [hh, hu] at this; exact absurd rfl this.born
  unfold exec1 at hx
  split at hx
  · rename_i fo args ats hop
    split at hx
    · rename_i f caps hf
      obtain ⟨hc, rs, largs, l, R, Rp, h1, h2, h3, h4, h5, h6, h7, h8, h9, h10⟩ := hx
      have := call_go (P := P) (nid := nid) (a := a) hw henv hu hnid hop hf hc h1 (fun vs hv => h2 E vs hv) h3 h4 h5 h6 h7 h8
      intro next Q hn hp
      refine this next Q (fun val w' E' x h' hk => ?_) (fun v w' E' x h' hk => ?_)
      · obtain ⟨y, l', g1, g2, rfl, rfl⟩ := hk
        exact hn val w' E' _ _ (h9 y l' g1 g2)
      · exact hp v w' E' x h' (h10 x hk)
    · exact hx.elim
  · rename_i x hop
    split at hx
    · rename_i t v he
      have hv := Rep.ev henv x
      rw [he] at hv
      have e1 := hv.sc_inv
      intro next Q hn hp
      have := hp (.iface t v) w E _ h hx (.p (.sc _)) trivial (.refl _ _) hw (.refl _ _ _) (fun _ hid => hid)
      unfold Oper.wp
      have hrun : (execOp a.eval o).run P w = .halt (.panic (.iface t v)) w := by
        simp [execOp, hop, e1, Instr.panic]
      rw [hrun]
      exact this
    · exact hx.elim
  · split at hx
    · rename_i s x h' ha
      exact (aop_sim hw henv hu ha hx.1).go hx.2
    · exact hx.elim

theorem reg_wp {ops : Array Oper} {nt m : Nat} {K : AEnv → AHeap → Prop} {Kp : AV → Prop} (hreg : regOK nt ops.toList = true) : ∀ (l : List Nat) (sl : List SOp) (nid : Nat) (E : Env) (env : AEnv) (h : AHeap) (a : Act) (w : World),
    (∀ (k i : Nat), l[k]? = some i → ∃ o : Oper, ops[i]? = some o ∧ sl[k]? = some (SOp.mk o.dst o.op o.guard)) → l.length = sl.length → m ≤ nid → Sim nt E env h nid a w → regK P (ops.toList.map (·.dst)) K Kp nid sl env h →
    ∀ Q : Exit → Act → World → Prop,
      (∀ E' env' h' a' w', K env' h' → Sim nt E' env' h' (nid + sl.length) a' w' → Evol m E h w E' h' w' → Q .normal a' w') →
      (∀ E' env' h' nb' a' w' v x, Kp x → Rep E' x v → idsLt 0 x → Sim nt E' env' h' nb' a' w' → Evol m E h w E' h' w' → Q (.panic (pan v)) a' w') →
      wpOps P ops Q l a w
  | [], sl, nid, E, env, h, a, w, hl, hlen, hm, hs, hk, Q, hn, hp => by
    have : sl = [] := List.eq_nil_of_length_eq_zero (by simpa using hlen.symm)
    subst this
    exact hn E env h a w hk hs (.refl _ _ _ _)
  | i :: l, sl, nid, E, env, h, a, w, hl, hlen, hm, hs, hk, Q, hn, hp => by
    match sl, hlen with
    | so :: sl, hlen =>
      obtain ⟨o, ho, hso⟩ := hl 0 i rfl
      simp at hso
      subst hso
      have hmem : o ∈ ops.toList := by simpa using Array.mem_of_getElem? ho
      have hdst : ∀ t, o.dst = some t → t < a.tmps.size := by
        intro t ht
        have := List.all_eq_true.1 hreg o hmem
        rw [ht] at this
        rw [hs.size]
        simpa using this
      have hl' : ∀ (k i : Nat), l[k]? = some i → ∃ o : Oper, ops[i]? = some o ∧ sl[k]? = some (SOp.mk o.dst o.op o.guard) := fun k i hk => by
        obtain ⟨o', h1, h2⟩ := hl (k + 1) i (by simpa using hk)
        exact ⟨o', h1, by simpa using h2⟩
      have hlen' : l.length = sl.length := by simpa using hlen
      have exec : exec1 P nid env h o.op (fun x h' => regK P (ops.toList.map (·.dst)) K Kp (nid + 1) sl (putE env o.dst x) h') Kp → o.wp P a w (wpOps P ops Q l) Q := by
        intro hx
        refine exec1_go hs.ok hs.env (hs.fresh nid (Nat.le_refl _)) hx (wpOps P ops Q l) Q (fun val w' E' x h' hk h1 h2 h3 h4 => ?_) (fun v w' E' x h' hk h1 h2 h3 h4 h5 h6 => ?_)
        · have hle := h2.le (hs.fresh nid (Nat.le_refl _))
          have hev := h4.evol h2 hm
          refine reg_wp hreg l sl (nid + 1) E' _ h' _ w' hl' hlen' (by omega) ⟨h3, put_env hle hs.env h1 hdst, fun id hid => ?_, by rw [put_size]; exact hs.size, by rw [put_defers]; exact hs.defers⟩ hk Q
            (fun E2 env2 h2' a2 w2 g1 g2 g3 => hn E2 env2 h2' a2 w2 g1 (by rw [show nid + 1 + sl.length = nid + (sl.length + 1) by omega] at g2; exact g2) (hev.trans g3))
            (fun E2 env2 h2' nb2 a2 w2 v x g1 g2 g3 g4 g5 => hp E2 env2 h2' nb2 a2 w2 v x g1 g2 g3 g4 (hev.trans g5))
          rcases h2.ch id (by omega) with e | ⟨_, e⟩
          · rw [e]; exact hs.fresh id (by omega)
          · exact absurd (hs.fresh id (by omega)) e
        · have hle := h3.le (hs.fresh nid (Nat.le_refl _))
          refine hp E' env h' (nid + 1) a w' v x hk h1 h2 ⟨h4, fun k => (hs.env k).mono hle, fun id hid => ?_, hs.size, hs.defers⟩ (h5.evol h3 hm)
          rcases h3.ch id (by omega) with e | ⟨_, e⟩
          · rw [e]; exact hs.fresh id (by omega)
          · exact absurd (hs.fresh id (by omega)) e
      simp only [wpOps, ho]
      simp only [regK] at hk
      cases hg : o.guard with
      | none =>
        rw [hg] at hk
        have hw : Region.wanted o (yielded ops a.tmps) = true := by simp [Region.wanted, hg]
        rw [if_pos hw]
        exact .inl (exec hk)
      | some jw =>
        obtain ⟨j, want⟩ := jw
        rw [hg] at hk
        simp only [] at hk
        split at hk
        · rename_i b hb
          have hy := yld_spec hs.env hs.size hreg hb
          by_cases e : b = want
          · have hw : Region.wanted o (yielded ops a.tmps) = true := by simp only [Region.wanted, hg, hy, e, beq_self_eq_true, beq_iff_eq, not_false_eq_true]
            rw [if_pos hw]
            exact .inl (exec (hk.1 e))
          · have hw : ¬ Region.wanted o (yielded ops a.tmps) = true := by simp only [Region.wanted, hg, hy, e, beq_self_eq_true, beq_iff_eq, not_false_eq_true]
            rw [if_neg hw]
            refine reg_wp hreg l sl (nid + 1) E _ h _ w hl' hlen' (by omega) ⟨hs.ok, put_env (.refl _) hs.env (.p (.sc _)) hdst, fun id hid => hs.fresh id (by omega), by rw [put_size]; exact hs.size, by rw [put_defers]; exact hs.defers⟩ (hk.2 e) Q
              (fun E2 env2 h2' a2 w2 g1 g2 g3 => hn E2 env2 h2' a2 w2 g1 (by rw [show nid + 1 + sl.length = nid + (sl.length + 1) by omega] at g2; exact g2) g3) hp
        · exact hk.elim

end

/-! ### Code -/

theorem wp_loop_ix {P : Program} {c : Code} {Q : Exit → Act → World → Prop} {ι : Type} (I : ι → Act → World → Prop) (μ : ι → Nat)
    (round : ∀ i a w, I i a w → c.wp P (Exit.then (fun a' w' => ∃ j, I j a' w' ∧ μ j < μ i) Q) a w) : ∀ i a w, I i a w → (Code.loop c).wp P Q a w := by
  intro i a w h₀ b k cs
  have key : ∀ n i a w, μ i = n → I i a w → ∃ e a' w', Q e a' w' ∧ Arrives P (lone (b.at a (.code c :: .inLoop c :: k)) cs w) b k cs e a' w' := by
    intro n
    induction n using Nat.strongRecOn with
    | _ n ih =>
      intro i a w hn hI
      obtain ⟨e, a₁, w₁, hq, harr⟩ := round i a w hI b (.inLoop c :: k) cs
      cases e with
      | normal =>
        obtain ⟨j, hI₁, hlt⟩ := hq
        obtain ⟨e₂, a₂, w₂, hq₂, harr₂⟩ := ih (μ j) (hn ▸ hlt) j a₁ w₁ rfl hI₁
        exact ⟨e₂, a₂, w₂, hq₂, .of_steps (Steps.trans harr (.one step_inLoop)) harr₂⟩
      | exit id => exact ⟨_, a₁, w₁, hq, .pass (x := .inLoop c) rfl (fun _ _ => .inl (by simp)) harr⟩
      | goto l => exact ⟨_, a₁, w₁, hq, .pass (x := .inLoop c) rfl (fun _ _ => .inl (by simp)) harr⟩
      | ret => exact ⟨_, a₁, w₁, hq, .pass (x := .inLoop c) rfl (fun _ _ => .inl (by simp)) harr⟩
      | panic ch => exact ⟨_, a₁, w₁, hq, .pass (x := .inLoop c) rfl (fun _ _ => .inl (by simp)) harr⟩
      | outgrown => exact ⟨_, a₁, w₁, hq, .pass (x := .inLoop c) rfl (fun _ _ => .inl (by simp)) harr⟩
  obtain ⟨e, a', w', hq, harr⟩ := key _ i a w rfl h₀
  exact ⟨e, a', w', hq, .of_steps (.one step_loop) harr⟩


inductive AX where
  | normal
  | exit (id : Nat)
  | ret
  | panic (x : AV)

def EM (E : Env) : AX → Exit → Prop
  | .normal, .normal => True
  | .exit id, .exit id' => id = id'
  | .ret, .ret => True
  | .panic x, .panic chain => ∃ v, chain = pan v ∧ Rep E x v ∧ idsLt 0 x
  | _, _ => False

abbrev AQ := AX → AEnv → AHeap → Nat → Prop

def ACode (P : Program) (nt m : Nat) (c : Code) (env : AEnv) (h : AHeap) (nb : Nat) (Q : AQ) : Prop :=
  ∀ (E : Env) (a : Act) (w : World), Sim nt E env h nb a w → m ≤ nb →
    c.wp P (fun e a' w' => ∃ E' x env' h' nb', Q x env' h' nb' ∧ m ≤ nb' ∧ EM E' x e ∧ Sim nt E' env' h' nb' a' w' ∧ Evol m E h w E' h' w') a w

def thenA (K : AEnv → AHeap → Nat → Prop) (Q : AQ) : AQ
  | .normal, env, h, nb => K env h nb
  | x, env, h, nb => Q x env h nb

def blockA (id : Nat) (Q : AQ) : AQ
  | .exit id', env, h, nb => if id' = id then Q .normal env h nb else Q (.exit id') env h nb
  | x, env, h, nb => Q x env h nb

section
variable {P : Program} {nt m nb : Nat} {env : AEnv} {h : AHeap} {Q : AQ}

theorem EM.mono {E E' : Env} {x : AX} {e : Exit} (h : EM E x e) (hI : ILe E.I E'.I) : EM E' x e := by
  cases x <;> cases e <;> first | exact h | exact h.elim | skip
  obtain ⟨v, h1, h2, h3⟩ := h
  exact ⟨v, h1, h2.free hI h3, h3⟩

theorem ACode.mono {c : Code} {Q' : AQ} (hc : ACode P nt m c env h nb Q) (hq : ∀ x env h nb, Q x env h nb → Q' x env h nb) : ACode P nt m c env h nb Q' := by
  intro E a w hs hm
  refine wp_mono (hc E a w hs hm) fun e a' w' ⟨E', x, env', h', nb', h1, h2⟩ => ⟨E', x, env', h', nb', hq _ _ _ _ h1, h2⟩

theorem c_skip (hq : Q .normal env h nb) : ACode P nt m .skip env h nb Q := fun E a w hs hm => wp_skip ⟨E, .normal, env, h, nb, hq, hm, trivial, hs, .refl _ _ _ _⟩
theorem c_exit {id : Nat} (hq : Q (.exit id) env h nb) : ACode P nt m (.exit id) env h nb Q := fun E a w hs hm => wp_exit ⟨E, .exit id, env, h, nb, hq, hm, rfl, hs, .refl _ _ _ _⟩
theorem c_ret (hq : Q .ret env h nb) : ACode P nt m .ret env h nb Q := fun E a w hs hm => wp_ret ⟨E, .ret, env, h, nb, hq, hm, trivial, hs, .refl _ _ _ _⟩
theorem c_label {l : Nat} (hq : Q .normal env h nb) : ACode P nt m (.label l) env h nb Q := fun E a w hs hm => wp_label ⟨E, .normal, env, h, nb, hq, hm, trivial, hs, .refl _ _ _ _⟩

theorem c_seq {x y : Code} (hx : ∀ K : AEnv → AHeap → Nat → Prop, (∀ env h nb, ACode P nt m y env h nb Q → K env h nb) → ACode P nt m x env h nb (thenA K Q)) : ACode P nt m (.seq x y) env h nb Q := by
  intro E a w hs hm
  refine wp_seq (wp_mono (hx (fun env h nb => ACode P nt m y env h nb Q) (fun _ _ _ h => h) E a w hs hm) fun e a' w' hq => ?_)
  obtain ⟨E', ax, env', h', nb', h1, h2, h3, h4, h5⟩ := hq
  cases e <;> cases ax <;> simp only [EM] at h3 <;> try exact h3.elim
  · show Code.wp P y _ a' w'
    refine wp_mono (h1 E' a' w' h4 h2) fun e2 a2 w2 ⟨E2, x2, env2, h2', nb2, g1, g2, g3, g4, g5⟩ => ⟨E2, x2, env2, h2', nb2, g1, g2, g3, g4, h5.trans g5⟩
  · exact ⟨E', _, env', h', nb', h1, h2, h3, h4, h5⟩
  · exact ⟨E', _, env', h', nb', h1, h2, trivial, h4, h5⟩
  · exact ⟨E', _, env', h', nb', h1, h2, h3, h4, h5⟩

theorem c_block {id : Nat} {c : Code} (hc : ACode P nt m c env h nb (blockA id Q)) : ACode P nt m (.block id c) env h nb Q := by
  intro E a w hs hm
  refine wp_block (wp_mono (hc E a w hs hm) fun e a' w' hq => ?_)
  obtain ⟨E', ax, env', h', nb', h1, h2, h3, h4, h5⟩ := hq
  cases e <;> cases ax <;> simp only [EM] at h3 <;> try exact h3.elim
  · exact ⟨E', _, env', h', nb', h1, h2, trivial, h4, h5⟩
  · subst h3
    rename_i id'
    by_cases e : id' = id
    · simp only [blockA, e, if_true] at h1
      simp only [Exit.inBlock, e, if_true]
      exact ⟨E', _, env', h', nb', h1, h2, trivial, h4, h5⟩
    · simp only [blockA, e, if_false] at h1
      simp only [Exit.inBlock, e, if_false]
      exact ⟨E', _, env', h', nb', h1, h2, rfl, h4, h5⟩
  · exact ⟨E', _, env', h', nb', h1, h2, trivial, h4, h5⟩
  · exact ⟨E', _, env', h', nb', h1, h2, h3, h4, h5⟩

theorem c_scope {c : Code} (hc : ACode P nt m c env h nb Q) : ACode P nt m (.scope c) env h nb Q := by
  intro E a w hs hm
  refine wp_scope_straight (wp_mono (hc E a w hs hm) fun e a' w' hq => ?_)
  cases e with
  | goto l => obtain ⟨E', ax, env', h', nb', h1, h2, h3, h4, h5⟩ := hq; cases ax <;> simp only [EM] at h3
  | _ => exact hq

theorem c_cond {c : Operand} {x y : Code} {b : Bool} (hc : ev env c = .p (.sc (.bool b))) (ht : b = true → ACode P nt m x env h nb Q) (hf : b = false → ACode P nt m y env h nb Q) : ACode P nt m (.cond c x y) env h nb Q := by
  intro E a w hs hm
  have hr := Rep.ev hs.env c
  rw [hc] at hr
  refine wp_cond_split hr.sc_inv (fun e => ht e E a w hs hm) (fun e => hf e E a w hs hm)

theorem c_region {id : Nat} {ops : Array Oper} (hreg : regOK nt ops.toList = true)
    (hk : regK P (ops.toList.map (·.dst)) (fun env h => Q .normal env h (nb + ops.size)) (fun x => ∀ env h nb, Q (.panic x) env h nb) nb (strip ops.toList) env h) : ACode P nt m (.region id ops false) env h nb Q := by
  intro E a w hs hm
  refine wp_region ?_
  refine reg_wp hreg (List.range ops.size) (strip ops.toList) nb E env h a w (fun k i hk => ?_) (by simp [strip]) hm hs hk _ (fun E' env' h' a' w' h1 h2 h3 => ⟨E', .normal, env', h', _, h1, by omega, trivial, by simpa [strip] using h2, h3⟩)
    (fun E' env' h' nb' a' w' v x h1 h2 h3 h4 h5 => ?_)
  · have hkl := (List.getElem?_eq_some_iff.1 hk).1
    have : i = k := by simpa using ((List.getElem?_eq_some_iff.1 hk).2).symm
    subst this
    have hlt : i < ops.size := by simpa using hkl
    exact ⟨ops[i], by simp [hlt], by simp [strip, hlt]⟩
  · have hmm : Sim nt E' env' h' (max nb' m) a' w' := ⟨h4.ok, h4.env, fun id hid => h4.fresh id (by omega), h4.size, h4.defers⟩
    exact ⟨E', .panic x, env', h', max nb' m, h1 _ _ _, by omega, ⟨v, rfl, h2, h3⟩, hmm, h5⟩

theorem c_loop {c : Code} {ι : Type} (S : ι → AEnv × AHeap × Nat) (μ : ι → Nat) (Pre : AEnv → AHeap → Nat → ι → Prop)
    (hpre : ∀ env h nb i, Pre env h nb i → ∀ E a w, Sim nt E env h nb a w → m ≤ nb → ∃ E', Sim nt E' (S i).1 (S i).2.1 (S i).2.2 a w ∧ m ≤ (S i).2.2 ∧ Evol m E h w E' (S i).2.1 w)
    (i0 : ι) (h0 : Pre env h nb i0)
    (round : ∀ i, ACode P nt m c (S i).1 (S i).2.1 (S i).2.2 (thenA (fun env h nb => ∃ j, μ j < μ i ∧ Pre env h nb j) Q)) : ACode P nt m (.loop c) env h nb Q := by
  intro E a w hs hm
  obtain ⟨E0, hs0, hm0, hev0⟩ := hpre env h nb i0 h0 E a w hs hm
  refine wp_loop_ix (fun i a' w' => ∃ E', Sim nt E' (S i).1 (S i).2.1 (S i).2.2 a' w' ∧ m ≤ (S i).2.2 ∧ Evol m E h w E' (S i).2.1 w') μ (fun i a1 w1 hI => ?_) i0 a w ⟨E0, hs0, hm0, hev0⟩
  obtain ⟨E1, hs1, hm1, hev1⟩ := hI
  refine wp_mono (round i E1 a1 w1 hs1 hm1) fun e a2 w2 ⟨E2, x, env2, h2, nb2, g1, g2, g3, g4, g5⟩ => ?_
  cases e <;> cases x <;> simp only [EM] at g3 <;> try exact g3.elim
  · obtain ⟨j, hj, hp⟩ := g1
    obtain ⟨E3, q1, q2, q3⟩ := hpre env2 h2 nb2 j hp E2 a2 w2 g4 g2
    exact ⟨j, ⟨E3, q1, q2, (hev1.trans g5).trans q3⟩, hj⟩
  · exact ⟨E2, _, env2, h2, nb2, g1, g2, g3, g4, hev1.trans g5⟩
  · exact ⟨E2, _, env2, h2, nb2, g1, g2, trivial, g4, hev1.trans g5⟩
  · exact ⟨E2, _, env2, h2, nb2, g1, g2, g3, g4, hev1.trans g5⟩

end

end Go.Ab
