/- Each abstract operation tells what the model's does: the pure ones. No condition. -/
import Derived.Test.YtohmjbgcmccplaaAb2
set_option linter.unusedVariables false
set_option linter.unusedSimpArgs false
namespace Go.Ab
open Go

/-- From an environment to a later one by one operation, which may bring up the chunk nid. -/
structure EStep (nid : Nat) (E E' : Env) : Prop where
  I : ILe E.I E'.I
  ch : ∀ id, id ≠ nid → E'.ch id = E.ch id ∨ (E'.ch id = .dead ∧ E.ch id ≠ .unborn)

theorem EStep.refl (nid : Nat) (E : Env) : EStep nid E E := ⟨.refl _, fun _ _ => .inl rfl⟩
theorem EStep.le {nid : Nat} {E E' : Env} (h : EStep nid E E') (hn : E.ch nid = .unborn) : ELe E E' := by
  refine ⟨h.I, fun id => ?_⟩
  by_cases e : id = nid
  · subst e; exact .inl hn
  · rcases h.ch id e with h | h
    · exact .inr (.inl h)
    · exact .inr (.inr h.1)

structure Moved (E : Env) (h : AHeap) (w : World) (E' : Env) (h' : AHeap) (w' : World) : Prop where
  size : w.heap.size ≤ w'.heap.size
  frame : ∀ g, g < w.heap.size → ¬ own E h g → w'.heap[g]? = w.heap[g]?
  imm : ∀ g o, E'.I g = some o → E.I g = some o ∨ w.heap.size ≤ g ∨ own E h g
  owned : ∀ g, own E' h' g → w.heap.size ≤ g ∨ own E h g
  same : w'.os = w.os ∧ w'.output = w.output

theorem Moved.refl (E : Env) (h : AHeap) (w : World) : Moved E h w E h w :=
  ⟨Nat.le_refl _, fun _ _ _ => rfl, fun _ _ e => .inl e, fun _ e => .inr e, rfl, rfl⟩

theorem Moved.evol {m nid : Nat} {E E' : Env} {h h' : AHeap} {w w' : World} (a : Moved E h w E' h' w') (s : EStep nid E E') (hm : m ≤ nid) : Evol m E h w E' h' w' :=
  ⟨s.I, fun id hid => by
    rcases s.ch id (by omega) with e | e
    · exact .inl e
    · exact .inr e.1, a.size, a.frame, a.imm, a.owned, a.same⟩

/-- What one operation of the model does, told by an abstract value and heap. -/
def OpSim (P : Program) (nid : Nat) (E : Env) (h : AHeap) (w : World) (o : Oper) (a : Act) (x : AV) (h' : AHeap) : Prop :=
  ∃ val w' E', ((execOp a.eval o).run P w = .ok (.value val) w' ∨ ((execOp a.eval o).run P w = .ok .skip w' ∧ val = undef)) ∧
    Rep E' x val ∧ EStep nid E E' ∧ WOK E' h' w' ∧ Moved E h w E' h' w'

theorem Rep.sc_inv {E : Env} {u v : Value} (h : Rep E (.p (.sc u)) v) : v = u := by
  cases h with | p h => cases h; rfl

theorem eqGuard_ok {P : Program} {w : World} {op : BinOp} {t : TypeId} {x y : Operand} {u v : Value} (hg : ∀ cs, u ≠ .agg cs) (hn : u ≠ .nilIface) : (eqGuard op t x y u v).run P w = .ok () w := by
  unfold eqGuard
  cases op <;> first
    | rfl
    | (cases u <;> first
        | rfl
        | exact absurd rfl hn
        | exact absurd rfl (hg _))

/-- Whole numbers of one kind. -/
def abin (op : BinOp) (k : IntKind) (a b : Int) : Option Value :=
  match op with
  | .add => some (.int k (k.wrap (a + b)))
  | .sub => some (.int k (k.wrap (a - b)))
  | .mul => some (.int k (k.wrap (a * b)))
  | .quo => if b = 0 then none else some (.int k (k.wrap (a.tdiv b)))
  | .rem => if b = 0 then none else some (.int k (a.tmod b))
  | .and => some (.int k (k.wrap (BitVec.ofInt k.bits a &&& BitVec.ofInt k.bits b).toNat))
  | .or => some (.int k (k.wrap (BitVec.ofInt k.bits a ||| BitVec.ofInt k.bits b).toNat))
  | .xor => some (.int k (k.wrap (BitVec.ofInt k.bits a ^^^ BitVec.ofInt k.bits b).toNat))
  | .eql => some (.bool (decide (a = b)))
  | .neq => some (.bool (decide (a ≠ b)))
  | .lss => some (.bool (decide (a < b)))
  | .leq => some (.bool (decide (a ≤ b)))
  | .gtr => some (.bool (decide (b < a)))
  | .geq => some (.bool (decide (b ≤ a)))
  | _ => none

theorem abin_run {P : Program} {op : BinOp} {k : IntKind} {t : TypeId} {a b : Int} {r : Value} (h : abin op k a b = some r) (w : World) : (Go.binOp op t (.int k a) (.int k b)).run P w = .ok r w := by
  have hne : (a != b) = decide (a ≠ b) := by
    by_cases e : a = b
    · simp [e]
    · simp [e, bne]
  have heq : (a == b) = decide (a = b) := by
    by_cases e : a = b
    · simp [e]
    · simp [e]
  unfold abin at h
  cases op <;> simp only [] at h <;> first
    | (cases h; done)
    | (injection h with h; subst h; simp [Go.binOp, Op.intArith, Op.intBits, Op.intCmp, hne]; done)
    | (injection h with h; subst h; simp only [← heq]; simp [Go.binOp, Op.intCmp]; done)
    | (split at h
       · cases h
       · rename_i hb
         injection h with h
         subst h
         simp [Go.binOp, Op.intDiv, hb]
         done)

/-- Both are numbers: a conversion. -/
def intT (P : Program) (t : TypeId) : Option IntKind :=
  match P.underlying t with
  | some (.int k) => some k
  | _ => none

theorem intT_spec {P : Program} {t : TypeId} {k : IntKind} (h : intT P t = some k) : P.underlying t = some (.int k) := by
  unfold intT at h; split at h
  · rename_i h1; injection h with h; rw [h1, h]
  · cases h

section
variable {P : Program} {nid : Nat} {E : Env} {h : AHeap} {w : World} {o : Oper} {a : Act} {env : AEnv}

theorem OpSim.pure {x : AV} {val : Value} (hw : WOK E h w) (hr : (execOp a.eval o).run P w = .ok (.value val) w) (hx : Rep E x val) : OpSim P nid E h w o a x h :=
  ⟨val, w, E, .inl hr, hx, .refl _ _, hw, .refl _ _ _⟩

variable (hw : WOK E h w) (henv : ∀ k, Rep E (env k) (a.tmps.getD k undef))
include hw henv

theorem sim_move {x : Operand} (ho : o.op = .move x ∨ o.op = .assign x) : OpSim P nid E h w o a (ev env x) h := by
  refine OpSim.pure hw (val := a.eval x) ?_ (Rep.ev henv x)
  rcases ho with ho | ho <;> simp [execOp, ho]

theorem sim_pick {c x y : Operand} {t : Bool} (ho : o.op = .pick c x y) (hc : ev env c = .p (.sc (.bool t))) :
    OpSim P nid E h w o a (if t then ev env x else ev env y) h := by
  have hv := Rep.ev henv c
  rw [hc] at hv
  have hc' : a.eval c = .bool t := hv.sc_inv
  refine OpSim.pure hw (val := if t then a.eval x else a.eval y) ?_ ?_
  · simp [execOp, ho, hc', asBool]
  · cases t
    · exact Rep.ev henv y
    · exact Rep.ev henv x

theorem sim_extract {x : Operand} {i : Nat} {xs : List AV} {y : AV} (ho : o.op = .extract x i) (hx : ev env x = .tup xs) (hy : xs[i]? = some y) :
    OpSim P nid E h w o a y h := by
  have hv := Rep.ev henv x
  rw [hx] at hv
  obtain ⟨vs, e, hl⟩ := RepL.of_tup hv
  obtain ⟨v, hv', hr⟩ := hl.2 i y hy
  have hv2 : vs[i]? = some v := by simpa using hv'
  refine OpSim.pure hw (val := v) ?_ hr
  simp [execOp, ho, e, Instr.extract, hv2]

/-- A pointer: what a nil check lets through. -/
def isPtr : AV → Bool
  | .ptr _ _ => true
  | .apt _ _ _ _ => true
  | .rpt _ _ => true
  | .fn _ _ => true
  | _ => false

theorem sim_nilCheck {x : Operand} (ho : o.op = .nilCheck x) (hx : isPtr (ev env x) = true) : OpSim P nid E h w o a (ev env x) h := by
  have hv := Rep.ev henv x
  refine OpSim.pure hw (val := a.eval x) ?_ hv
  generalize ev env x = y at hv hx
  generalize hq : a.eval x = v at hv
  cases hv <;> first | (simp [isPtr] at hx; done) | (simp [execOp, ho, hq]; done)

theorem sim_makeFunc {f : FuncId} {caps : Array Operand} (ho : o.op = .makeFunc (.func f) #[] caps) :
    OpSim P nid E h w o a (.fn f (caps.toList.map (ev env))) h := by
  refine OpSim.pure hw (val := .func (.func f) #[] (caps.map a.eval)) ?_ ?_
  · simp [execOp, ho, Instr.makeFunc]
  · refine .fn _ (by simp) (fun i => (caps.map a.eval).getD i undef) (fun i hi => ?_) (fun i x hx => ?_)
    · simp at hi
      simp [hi]
    · simp only [List.getElem?_map, Array.getElem?_toList] at hx
      cases hc : caps[i]? with
      | none => simp [hc] at hx
      | some u =>
        simp [hc] at hx
        subst hx
        have hlt : i < caps.size := (Array.getElem?_eq_some_iff.1 hc).1
        have hcu : caps[i] = u := (Array.getElem?_eq_some_iff.1 hc).2
        simp [hlt, hcu]
        exact Rep.ev henv u

theorem sim_binOp {op : BinOp} {t t' : TypeId} {x y : Operand} {u v r : Value} (ho : o.op = .binOp op t x y t') (hx : ev env x = .p (.sc u)) (hy : ev env y = .p (.sc v))
    (hg : ∀ cs, u ≠ .agg cs) (hn : u ≠ .nilIface) (hr : (Go.binOp op t u v).run P w = .ok r w) : OpSim P nid E h w o a (cst1 r) h := by
  have hu := Rep.ev henv x
  have hv := Rep.ev henv y
  rw [hx] at hu
  rw [hy] at hv
  have e1 : a.eval x = u := hu.sc_inv
  have e2 : a.eval y = v := hv.sc_inv
  refine OpSim.pure hw (val := r) ?_ (Rep.cst1 r)
  have hgd := eqGuard_ok (P := P) (w := w) (op := op) (t := t) (x := x) (y := y) (v := v) hg hn
  simp [execOp, ho, e1, e2, hgd, hr]

theorem sim_bin {op : BinOp} {t t' : TypeId} {x y : Operand} {k : IntKind} {m n : Int} {r : Value} (ho : o.op = .binOp op t x y t') (hx : ev env x = .p (.sc (.int k m))) (hy : ev env y = .p (.sc (.int k n)))
    (hr : abin op k m n = some r) : OpSim P nid E h w o a (cst1 r) h :=
  sim_binOp hw henv ho hx hy (by simp) (by simp) (abin_run hr w)

theorem sim_not {t : TypeId} {x : Operand} {b : Bool} (ho : o.op = .unOp .not t x) (hx : ev env x = .p (.sc (.bool b))) : OpSim P nid E h w o a (.p (.sc (.bool !b))) h := by
  have hu := Rep.ev henv x
  rw [hx] at hu
  have e1 : a.eval x = .bool b := hu.sc_inv
  refine OpSim.pure hw (val := .bool !b) ?_ (.p (.sc _))
  simp [execOp, ho, e1, Op.unary]

theorem sim_neg {t : TypeId} {x : Operand} {k : IntKind} {n : Int} (ho : o.op = .unOp .neg t x) (hx : ev env x = .p (.sc (.int k n))) : OpSim P nid E h w o a (.p (.sc (.int k (k.wrap (-n))))) h := by
  have hu := Rep.ev henv x
  rw [hx] at hu
  have e1 : a.eval x = .int k n := hu.sc_inv
  refine OpSim.pure hw (val := .int k (k.wrap (-n))) ?_ (.p (.sc _))
  simp [execOp, ho, e1, Op.unary, Op.intArith]

theorem sim_convInt {s d : TypeId} {x : Operand} {k k' k'' : IntKind} {n : Int} (ho : o.op = .convert s d x) (hs : intT P s = some k) (hd : intT P d = some k') (hx : ev env x = .p (.sc (.int k'' n))) :
    OpSim P nid E h w o a (.p (.sc (.int k' (k'.wrap n)))) h := by
  have hu := Rep.ev henv x
  rw [hx] at hu
  have e1 : a.eval x = .int k'' n := hu.sc_inv
  refine OpSim.pure hw (val := .int k' (k'.wrap n)) ?_ (.p (.sc _))
  simp [execOp, ho, e1, convert, run_underlying (intT_spec hs), run_underlying (intT_spec hd), Conv.intToInt]
end

end Go.Ab
