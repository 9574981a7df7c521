/- The equations by which abstract states are reckoned, and code told as a list of what is still to be done. No condition. -/
import Derived.Test.YtohmjbgcmccplaaAb13
import Derived.KernelRfl
set_option linter.unusedVariables false
set_option linter.unusedSimpArgs false
namespace Go.Ab
open Go

theorem upd_at {α : Type} (f : Nat → α) (k j : Nat) (v : α) : upd f k v j = if j = k then v else f j := rfl

/-! ### Regions -/

/-- A truth value, once known; anything else stays. -/
def setV (b : Bool) : AV → AV
  | .p (.sc (.bool _)) => .p (.sc (.bool b))
  | x => x

theorem setV_bool (b b' : Bool) : setV b (.p (.sc (.bool b'))) = .p (.sc (.bool b)) := rfl
theorem setV_tuple (b : Bool) (vs : Array Value) : setV b (.p (.sc (.tuple vs))) = .p (.sc (.tuple vs)) := rfl

/-- The slot that operation j writes holds b. -/
def setY (ds : List (Option Tmp)) (env : AEnv) (j : Nat) (b : Bool) : AEnv :=
  match ds[j]? with
  | some (some d) => upd env d (setV b (env d))
  | _ => env

section
variable {P : Program} {ds : List (Option Tmp)} {K : AEnv → AHeap → Prop} {Kp : AV → Prop} {nid : Nat} {env : AEnv} {h : AHeap} {l : List SOp}

theorem regK_nil : regK P ds K Kp nid [] env h = K env h := rfl

/-- Behind one operation. -/
def contK (P : Program) (ds : List (Option Tmp)) (K : AEnv → AHeap → Prop) (Kp : AV → Prop) (nid : Nat) (r : Option (Prop × AV × AHeap)) (dst : Option Tmp) (l : List SOp) (env : AEnv) : Prop :=
  match r with
  | some (s, x, h') => s ∧ regK P ds K Kp (nid + 1) l (putE env dst x) h'
  | none => False

theorem contK_some {s : Prop} {x : AV} {h' : AHeap} {dst : Option Tmp} : contK P ds K Kp nid (some (s, x, h')) dst l env = (s ∧ regK P ds K Kp (nid + 1) l (putE env dst x) h') := rfl

theorem regK_op {dst : Option Tmp} {op : Op} (ho : isCall op = false) : regK P ds K Kp nid (⟨dst, op, none⟩ :: l) env h = contK P ds K Kp nid (aop P nid env h op) dst l env := by
  simp only [regK, contK, exec1]
  cases op <;> try rfl
  · rename_i c
    obtain ⟨callee, args, ats⟩ := c
    cases callee <;> first | rfl | cases ho
  · cases ho

theorem regK_move {dst : Option Tmp} {x : Operand} : regK P ds K Kp nid (⟨dst, .move x, none⟩ :: l) env h = contK P ds K Kp nid (aop P nid env h (.move x)) dst l env := regK_op rfl
theorem regK_assign {dst : Option Tmp} {x : Operand} : regK P ds K Kp nid (⟨dst, .assign x, none⟩ :: l) env h = contK P ds K Kp nid (aop P nid env h (.assign x)) dst l env := regK_op rfl
theorem regK_pick {dst : Option Tmp} {c : Operand} {x : Operand} {y : Operand} : regK P ds K Kp nid (⟨dst, .pick c x y, none⟩ :: l) env h = contK P ds K Kp nid (aop P nid env h (.pick c x y)) dst l env := regK_op rfl
theorem regK_alloc {dst : Option Tmp} {t : TypeId} : regK P ds K Kp nid (⟨dst, .alloc t, none⟩ :: l) env h = contK P ds K Kp nid (aop P nid env h (.alloc t)) dst l env := regK_op rfl
theorem regK_box {dst : Option Tmp} {t : TypeId} {x : Operand} : regK P ds K Kp nid (⟨dst, .box t x, none⟩ :: l) env h = contK P ds K Kp nid (aop P nid env h (.box t x)) dst l env := regK_op rfl
theorem regK_build {dst : Option Tmp} {t : TypeId} {ps : Array (Nat × Operand)} : regK P ds K Kp nid (⟨dst, .build t ps, none⟩ :: l) env h = contK P ds K Kp nid (aop P nid env h (.build t ps)) dst l env := regK_op rfl
theorem regK_buildSlice {dst : Option Tmp} {t : TypeId} {n : Nat} {ps : Array (Nat × Operand)} : regK P ds K Kp nid (⟨dst, .buildSlice t n ps, none⟩ :: l) env h = contK P ds K Kp nid (aop P nid env h (.buildSlice t n ps)) dst l env := regK_op rfl
theorem regK_load {dst : Option Tmp} {t : TypeId} {x : Operand} : regK P ds K Kp nid (⟨dst, .load t x, none⟩ :: l) env h = contK P ds K Kp nid (aop P nid env h (.load t x)) dst l env := regK_op rfl
theorem regK_store {dst : Option Tmp} {t : TypeId} {x : Operand} {y : Operand} : regK P ds K Kp nid (⟨dst, .store t x y, none⟩ :: l) env h = contK P ds K Kp nid (aop P nid env h (.store t x y)) dst l env := regK_op rfl
theorem regK_nilCheck {dst : Option Tmp} {x : Operand} : regK P ds K Kp nid (⟨dst, .nilCheck x, none⟩ :: l) env h = contK P ds K Kp nid (aop P nid env h (.nilCheck x)) dst l env := regK_op rfl
theorem regK_binOp {dst : Option Tmp} {b : BinOp} {t : TypeId} {x : Operand} {y : Operand} {t' : TypeId} : regK P ds K Kp nid (⟨dst, .binOp b t x y t', none⟩ :: l) env h = contK P ds K Kp nid (aop P nid env h (.binOp b t x y t')) dst l env := regK_op rfl
theorem regK_unOp {dst : Option Tmp} {u : UnOp} {t : TypeId} {x : Operand} : regK P ds K Kp nid (⟨dst, .unOp u t x, none⟩ :: l) env h = contK P ds K Kp nid (aop P nid env h (.unOp u t x)) dst l env := regK_op rfl
theorem regK_convert {dst : Option Tmp} {t : TypeId} {t' : TypeId} {x : Operand} : regK P ds K Kp nid (⟨dst, .convert t t' x, none⟩ :: l) env h = contK P ds K Kp nid (aop P nid env h (.convert t t' x)) dst l env := regK_op rfl
theorem regK_makeFunc {dst : Option Tmp} {fn : Fn} {xs : Array Operand} {ys : Array Operand} : regK P ds K Kp nid (⟨dst, .makeFunc fn xs ys, none⟩ :: l) env h = contK P ds K Kp nid (aop P nid env h (.makeFunc fn xs ys)) dst l env := regK_op rfl
theorem regK_makeSlice {dst : Option Tmp} {t : TypeId} {x : Operand} {y : Operand} : regK P ds K Kp nid (⟨dst, .makeSlice t x y, none⟩ :: l) env h = contK P ds K Kp nid (aop P nid env h (.makeSlice t x y)) dst l env := regK_op rfl
theorem regK_slice {dst : Option Tmp} {t : TypeId} {x : Operand} {lo : Option Operand} {hi : Option Operand} {mx : Option Operand} : regK P ds K Kp nid (⟨dst, .slice t x lo hi mx, none⟩ :: l) env h = contK P ds K Kp nid (aop P nid env h (.slice t x lo hi mx)) dst l env := regK_op rfl
theorem regK_fieldAddr {dst : Option Tmp} {t : TypeId} {x : Operand} {n : Nat} : regK P ds K Kp nid (⟨dst, .fieldAddr t x n, none⟩ :: l) env h = contK P ds K Kp nid (aop P nid env h (.fieldAddr t x n)) dst l env := regK_op rfl
theorem regK_field {dst : Option Tmp} {t : TypeId} {x : Operand} {n : Nat} : regK P ds K Kp nid (⟨dst, .field t x n, none⟩ :: l) env h = contK P ds K Kp nid (aop P nid env h (.field t x n)) dst l env := regK_op rfl
theorem regK_indexAddr {dst : Option Tmp} {t : TypeId} {x : Operand} {y : Operand} : regK P ds K Kp nid (⟨dst, .indexAddr t x y, none⟩ :: l) env h = contK P ds K Kp nid (aop P nid env h (.indexAddr t x y)) dst l env := regK_op rfl
theorem regK_index {dst : Option Tmp} {t : TypeId} {x : Operand} {y : Operand} : regK P ds K Kp nid (⟨dst, .index t x y, none⟩ :: l) env h = contK P ds K Kp nid (aop P nid env h (.index t x y)) dst l env := regK_op rfl
theorem regK_extract {dst : Option Tmp} {x : Operand} {n : Nat} : regK P ds K Kp nid (⟨dst, .extract x n, none⟩ :: l) env h = contK P ds K Kp nid (aop P nid env h (.extract x n)) dst l env := regK_op rfl
theorem regK_builtin {dst : Option Tmp} {b : Builtin} {xs : Array Operand} {ts : Array TypeId} : regK P ds K Kp nid (⟨dst, .call { callee := .builtin b, args := xs, argTypes := ts }, none⟩ :: l) env h = contK P ds K Kp nid (aop P nid env h (.call { callee := .builtin b, args := xs, argTypes := ts })) dst l env := regK_op rfl

def grdK (P : Program) (ds : List (Option Tmp)) (K : AEnv → AHeap → Prop) (Kp : AV → Prop) (nid : Nat) (r : Option Bool) (j : Nat) (want : Bool) (dst : Option Tmp) (op : Op) (l : List SOp) (env : AEnv) (h : AHeap) : Prop :=
  match r with
  | some b => (b = want → regK P ds K Kp nid (⟨dst, op, none⟩ :: l) (setY ds env j b) h) ∧ (b ≠ want → regK P ds K Kp (nid + 1) l (putE (setY ds env j b) dst (.p (.sc (.tuple #[])))) h)
  | none => False

theorem setY_eq {j : Nat} {b want : Bool} (hy : yld ds env j want = some b) : setY ds env j b = env := by
  unfold yld at hy
  unfold setY
  split at hy
  · rename_i d hd
    rw [hd]
    funext k
    show upd env d _ k = env k
    by_cases e : k = d
    · subst e
      rw [upd_same]
      unfold yldV at hy
      split at hy
      · rename_i b' hb
        injection hy with hy
        subst hy
        rw [hb]; rfl
      · rename_i vs hb
        rw [hb]; rfl
      · cases hy
    · rw [upd_other _ _ e]
  · cases hy

theorem regK_grd {dst : Option Tmp} {op : Op} {j : Nat} {want : Bool} : regK P ds K Kp nid (⟨dst, op, some (j, want)⟩ :: l) env h = grdK P ds K Kp nid (yld ds env j want) j want dst op l env h := by
  simp only [regK, grdK]
  cases hy : yld ds env j want with
  | none => rfl
  | some b => simp only [setY_eq hy]

theorem grdK_tt {dst : Option Tmp} {op : Op} {j : Nat} : grdK P ds K Kp nid (some true) j true dst op l env h = regK P ds K Kp nid (⟨dst, op, none⟩ :: l) (setY ds env j true) h := by simp [grdK]
theorem grdK_ff {dst : Option Tmp} {op : Op} {j : Nat} : grdK P ds K Kp nid (some false) j false dst op l env h = regK P ds K Kp nid (⟨dst, op, none⟩ :: l) (setY ds env j false) h := by simp [grdK]
theorem grdK_tf {dst : Option Tmp} {op : Op} {j : Nat} : grdK P ds K Kp nid (some true) j false dst op l env h = regK P ds K Kp (nid + 1) l (putE (setY ds env j true) dst (.p (.sc (.tuple #[])))) h := by simp [grdK]
theorem grdK_ft {dst : Option Tmp} {op : Op} {j : Nat} : grdK P ds K Kp nid (some false) j true dst op l env h = regK P ds K Kp (nid + 1) l (putE (setY ds env j false) dst (.p (.sc (.tuple #[])))) h := by simp [grdK]

theorem grdK_b {dst : Option Tmp} {op : Op} {j : Nat} {want b : Bool} (ht : b = true → grdK P ds K Kp nid (some true) j want dst op l env h) (hf : b = false → grdK P ds K Kp nid (some false) j want dst op l env h) :
    grdK P ds K Kp nid (some b) j want dst op l env h := by
  cases b
  · exact hf rfl
  · exact ht rfl

theorem grdK_dec {dst : Option Tmp} {op : Op} {j : Nat} {want : Bool} {p : Prop} [Decidable p] (ht : p → grdK P ds K Kp nid (some true) j want dst op l env h) (hf : ¬ p → grdK P ds K Kp nid (some false) j want dst op l env h) :
    grdK P ds K Kp nid (some (decide p)) j want dst op l env h :=
  grdK_b (fun e => ht (of_decide_eq_true e)) (fun e => hf (of_decide_eq_false e))

theorem regK_call {dst : Option Tmp} {fo : Operand} {args : Array Operand} {ats : Array TypeId} {f : FuncId} {caps : List AV} (hf : calleeA env fo = some (f, caps))
    (hc : CallK P f (args.toList.map (ev env) ++ caps) nid h (fun x h' => regK P ds K Kp (nid + 1) l (putE env dst x) h') Kp) :
    regK P ds K Kp nid (⟨dst, .call { callee := .value fo, args, argTypes := ats }, none⟩ :: l) env h := by
  simp only [regK, exec1, hf]
  exact hc

theorem regK_panic {dst : Option Tmp} {x : Operand} {t : TypeId} {v : Value} (hx : ev env x = .p (.sc (.iface t v))) (hk : Kp (.p (.sc (.iface t v)))) :
    regK P ds K Kp nid (⟨dst, .panic x, none⟩ :: l) env h := by
  simp only [regK, exec1, hx]
  exact hk
end

/-- A quiet call: no chunk goes over, none comes back. -/
theorem CallK.quiet {P : Program} {f : FuncId} {args largs : List AV} {nid : Nat} {h : AHeap} {K : AV → AHeap → Prop} {Kp : AV → Prop} {R : AV → AHeap → Prop} {Rp : AV → Prop} (hc : callable P f = true)
    (hcall : ACalls P f 0 largs (fun _ => none) R Rp) (hargs : ∀ (E : Env) (vs : List Value), RepL E args vs → RepL E largs vs) (hids : idsLtL 0 largs)
    (hk : ∀ y l', R y l' → Tidy 0 y l' → K (ren (fun _ => nid) y) (pushH [] nid l' h)) (hp : ∀ x, Rp x → Kp x) : CallK P f args nid h K Kp := by
  have key : ∀ (xs : List AV), idsLtL 0 xs → ∀ (E : Env) (vs : List Value), RepL E xs vs → RepL E (renL (look [] nid) xs) vs := by
    intro xs hx E vs hr
    refine ⟨by rw [renL_eq]; simpa using hr.1, fun i x hi => ?_⟩
    rw [renL_eq, List.getElem?_map] at hi
    cases hy : xs[i]? with
    | none => rw [hy] at hi; cases hi
    | some y =>
      rw [hy] at hi
      injection hi with hi
      subst hi
      obtain ⟨v, hv, hr2⟩ := hr.2 i y hy
      exact ⟨v, hv, hr2.push (m := 0) (.refl _) (fun id hid => absurd hid (by omega)) ((idsLtL_iff 0 xs).1 hx y (List.mem_of_getElem? hy))⟩
  refine ⟨hc, [], largs, fun _ => none, R, Rp, hcall, fun E vs hr => key largs hids E vs (hargs E vs hr), hids, List.nodup_nil, by simp, fun i hi => absurd hi (by simp), fun _ _ => rfl, fun _ => trivial, fun y l' h1 h2 => ?_, hp⟩
  have : look [] nid = fun _ => nid := by funext i; simp [look]
  rw [this]
  exact hk y l' h1 h2

mutual
theorem ren_free (ρ : Nat → Nat) : ∀ x : AV, idsLt 0 x → ren ρ x = x
  | .any, _ | .nil, _ | .p _, _ | .rpt _ _, _ => rfl
  | .ptr id _, h | .ref id _, h | .apt id _ _ _, h => by simp [idsLt] at h
  | .fn f xs, h => by rw [ren, renL_free ρ xs h]
  | .agg xs, h => by rw [ren, renL_free ρ xs h]
  | .tup xs, h => by rw [ren, renL_free ρ xs h]
theorem renL_free (ρ : Nat → Nat) : ∀ xs : List AV, idsLtL 0 xs → renL ρ xs = xs
  | [], _ => rfl
  | x :: xs, h => by rw [renL, ren_free ρ x h.1, renL_free ρ xs h.2]
end

theorem pushH_none (nid : Nat) (h : AHeap) (hn : h nid = none) : pushH [] nid (fun _ => none) h = h := by
  funext id
  unfold pushH
  cases hi : inside [] nid id with
  | none => rfl
  | some i =>
    have := inside_some hi
    simp [look] at this
    obtain ⟨-, e⟩ := this
    subst e
    simp [hn]

/-- A function that tells one thing and leaves nothing. -/
def AFun (P : Program) (f : FuncId) (args : List AV) (y : AV) : Prop :=
  ACalls P f 0 args (fun _ => none) (fun x h => x = y ∧ h = fun _ => none) (fun _ => False)

theorem CallK.fn {P : Program} {f : FuncId} {args largs : List AV} {nid : Nat} {h : AHeap} {K : AV → AHeap → Prop} {Kp : AV → Prop} {y : AV} (hcall : AFun P f largs y) (hc : callable P f = true)
    (hargs : normL args = largs) (hids : idsLtL 0 largs) (hy : idsLt 0 y) (hn : h nid = none) (hk : K y h) : CallK P f args nid h K Kp := by
  refine CallK.quiet hc hcall (fun _ _ hr => by rw [← hargs]; exact hr.norm) hids (fun z l' h1 _ => ?_) (fun x hx => hx.elim)
  obtain ⟨rfl, rfl⟩ := h1
  rw [ren_free _ _ hy, pushH_none nid h hn]
  exact hk

/-! ### Code, as what is still to be done -/

def ACs (P : Program) (nt m : Nat) : List Code → AQ → AEnv → AHeap → Nat → Prop
  | [], Q, env, h, nb => Q .normal env h nb
  | c :: cs, Q, env, h, nb => ACode P nt m c env h nb (thenA (ACs P nt m cs Q) Q)

section
variable {P : Program} {nt m nb : Nat} {env : AEnv} {h : AHeap} {Q : AQ} {cs : List Code}

theorem ACs_nil : ACs P nt m [] Q env h nb = Q .normal env h nb := rfl
theorem thenA_n {K : AEnv → AHeap → Nat → Prop} : thenA K Q .normal env h nb = K env h nb := rfl
theorem thenA_e {K : AEnv → AHeap → Nat → Prop} {id : Nat} : thenA K Q (.exit id) env h nb = Q (.exit id) env h nb := rfl
theorem thenA_r {K : AEnv → AHeap → Nat → Prop} : thenA K Q .ret env h nb = Q .ret env h nb := rfl
theorem thenA_p {K : AEnv → AHeap → Nat → Prop} {x : AV} : thenA K Q (.panic x) env h nb = Q (.panic x) env h nb := rfl
theorem blockA_n {id : Nat} : blockA id Q .normal env h nb = Q .normal env h nb := rfl
theorem blockA_e {id id' : Nat} : blockA id Q (.exit id') env h nb = if id' = id then Q .normal env h nb else Q (.exit id') env h nb := rfl
theorem blockA_r {id : Nat} : blockA id Q .ret env h nb = Q .ret env h nb := rfl
theorem blockA_p {id : Nat} {x : AV} : blockA id Q (.panic x) env h nb = Q (.panic x) env h nb := rfl

theorem cs_one {c : Code} (hc : ACs P nt m [c] Q env h nb) : ACode P nt m c env h nb Q := by
  refine ACode.mono hc fun x env h nb hq => ?_
  cases x <;> exact hq

theorem cs_seq {a b : Code} (hc : ACs P nt m (a :: b :: cs) Q env h nb) : ACs P nt m (.seq a b :: cs) Q env h nb := by
  refine c_seq fun K hK => ACode.mono hc fun x env h nb hq => ?_
  cases x with
  | normal => exact hK _ _ _ hq
  | _ => exact hq
theorem cs_skip (hc : ACs P nt m cs Q env h nb) : ACs P nt m (.skip :: cs) Q env h nb := c_skip hc
theorem cs_label {l : Nat} (hc : ACs P nt m cs Q env h nb) : ACs P nt m (.label l :: cs) Q env h nb := c_label hc
theorem cs_exit {id : Nat} (hq : Q (.exit id) env h nb) : ACs P nt m (.exit id :: cs) Q env h nb := c_exit hq
theorem cs_ret (hq : Q .ret env h nb) : ACs P nt m (.ret :: cs) Q env h nb := c_ret hq
theorem cs_scope {c : Code} (hc : ACs P nt m (c :: cs) Q env h nb) : ACs P nt m (.scope c :: cs) Q env h nb := c_scope hc
theorem cs_block {id : Nat} {c : Code} (hc : ACs P nt m [c] (blockA id (thenA (ACs P nt m cs Q) Q)) env h nb) : ACs P nt m (.block id c :: cs) Q env h nb := c_block (cs_one hc)

theorem cs_region {id : Nat} {ops : Array Oper} (hreg : regOK nt ops.toList = true)
    (hk : regK P (ops.toList.map (·.dst)) (fun env h => ACs P nt m cs Q env h (nb + ops.size)) (fun x => ∀ env h nb, Q (.panic x) env h nb) nb (strip ops.toList) env h) : ACs P nt m (.region id ops false :: cs) Q env h nb :=
  c_region hreg hk

def condK (P : Program) (nt m : Nat) (v : AV) (x y : Code) (cs : List Code) (Q : AQ) (env : AEnv) (h : AHeap) (nb : Nat) : Prop :=
  match v with
  | .p (.sc (.bool b)) => (b = true → ACs P nt m (x :: cs) Q env h nb) ∧ (b = false → ACs P nt m (y :: cs) Q env h nb)
  | _ => False

theorem cs_cond {c : Operand} {x y : Code} (hc : condK P nt m (ev env c) x y cs Q env h nb) : ACs P nt m (.cond c x y :: cs) Q env h nb := by
  unfold condK at hc
  split at hc
  · rename_i b hb; exact c_cond hb hc.1 hc.2
  · exact hc.elim

theorem condK_t {x y : Code} : condK P nt m (.p (.sc (.bool true))) x y cs Q env h nb = ACs P nt m (x :: cs) Q env h nb := by simp [condK]
theorem condK_f {x y : Code} : condK P nt m (.p (.sc (.bool false))) x y cs Q env h nb = ACs P nt m (y :: cs) Q env h nb := by simp [condK]
theorem condK_b {x y : Code} {b : Bool} (ht : b = true → ACs P nt m (x :: cs) Q env h nb) (hf : b = false → ACs P nt m (y :: cs) Q env h nb) : condK P nt m (.p (.sc (.bool b))) x y cs Q env h nb := ⟨ht, hf⟩
theorem condK_d {x y : Code} {p : Prop} [Decidable p] (ht : p → ACs P nt m (x :: cs) Q env h nb) (hf : ¬ p → ACs P nt m (y :: cs) Q env h nb) : condK P nt m (.p (.sc (.bool (decide p)))) x y cs Q env h nb :=
  ⟨fun e => ht (of_decide_eq_true e), fun e => hf (of_decide_eq_false e)⟩

theorem cs_loop {c : Code} {ι : Type} (le : ι → List (Nat × AV)) (lh : ι → List (Nat × Ck)) (n : Nat) (I : ι → Prop) (μ : ι → Nat)
    (i0 : ι) (hi0 : I i0) (h0 : ∃ ρ, WeakR m ρ n ((lh i0).map (·.1)) ∧ AllE ρ n env (le i0) ∧ AllH ρ n h (lh i0))
    (round : ∀ i, I i → ACs P nt m [c] (thenA (fun env h nb => ∃ j, (I j ∧ μ j < μ i) ∧ ∃ ρ, WeakR m ρ n ((lh j).map (·.1)) ∧ AllE ρ n env (le j) ∧ AllH ρ n h (lh j)) (thenA (ACs P nt m cs Q) Q)) (mkE (le i)) (mkH (lh i)) n) :
    ACs P nt m (.loop c :: cs) Q env h nb := c_loop_at le lh n I μ i0 hi0 h0 (fun i hi => cs_one (round i hi))

theorem cs_weak (ρ : Nat → Nat) (le : List (Nat × AV)) (lh : List (Nat × Ck)) (nb' : Nat) (hr : WeakR m ρ nb' (lh.map (·.1))) (he : AllE ρ nb' env le) (hh : AllH ρ nb' h lh) {c : Code}
    (hc : ACs P nt m (c :: cs) Q (mkE le) (mkH lh) nb') : ACs P nt m (c :: cs) Q env h nb := c_weak ρ le lh nb' hr he hh hc
theorem cs_freeze {c : Code} (id : Nat) {e : TypeId} {sz : Nat} {rows : List (List PV)} (hid : h id = some (.arr e sz rows)) (hc : ACs P nt m (c :: cs) Q env (upd h id (some (.fz rows))) nb) : ACs P nt m (c :: cs) Q env h nb := c_freeze id hid hc
theorem cs_frozen {c : Code} (k : Nat) {id n : Nat} {rows : List (List PV)} (hk : env k = .ref id n) (hid : h id = some (.fz rows)) (hn : rows.length = n) (hc : ACs P nt m (c :: cs) Q (upd env k (.p (.fro rows))) h nb) : ACs P nt m (c :: cs) Q env h nb := c_frozen k hk hid hn hc
theorem cs_frozen_cell {c : Code} (b j : Nat) {t : TypeId} {cells : List AV} {id n : Nat} {rows : List (List PV)} (hb : h b = some (.box t cells)) (hj : cells[j]? = some (.ref id n)) (hid : h id = some (.fz rows)) (hn : rows.length = n)
    (hc : ACs P nt m (c :: cs) Q env (upd h b (some (.box t (cells.set j (.p (.fro rows)))))) nb) : ACs P nt m (c :: cs) Q env h nb := c_frozen_cell b j hb hj hid hn hc
theorem cs_adopt {c : Code} (k : Nat) (e : TypeId) (sz : Nat) (hk : env k = .nil) (hc : ACs P nt m (c :: cs) Q (upd env k (.ref nb 0)) (upd h nb (some (.arr e sz []))) (nb + 1)) : ACs P nt m (c :: cs) Q env h nb := c_adopt k e sz hk hc

omit env h Q nb in
theorem acalls_body {f : FuncId} {fn : Func} {c : Code} {args : List AV} {H : AHeap} {R : AV → AHeap → Prop} {Rp : AV → Prop} (hf : P.funcs[f]? = some fn) (hb : fn.body = some c) (hnt : fn.ntmps = nt) (hlen : args.length ≤ nt)
    (hc : ACs P nt m [c] (RetQ P m fn.results.toList R Rp) (envA args) H m) : ACalls P f m args H R Rp :=
  acalls_of_body hf hb hnt hlen (fun _ _ => trivial) (cs_one hc)

/-- The end of a function that tells one thing and leaves nothing. -/
def retK (r : Option (List AV)) (y : AV) : Prop :=
  match r with
  | some l => norm (oneA l) = y ∧ idsLt 0 y
  | none => False

theorem ret_fn {res : List ResultVar} {y : AV} {Rp : AV → Prop} (hr : retK (resA P env h res) y) : RetQ P 0 res (fun x h => x = y ∧ h = fun _ => none) Rp .ret env h nb := by
  unfold retK at hr
  split at hr
  · rename_i l hl
    obtain ⟨hy, hi⟩ := hr
    exact ⟨l, hl, ⟨fun i => i, y, [], ⟨fun _ h => absurd h (by omega), fun _ _ _ _ h => h, Nat.zero_le _⟩, .inr (.inr ⟨hy, hi⟩), trivial, ids_up y hi, rfl, rfl⟩⟩
  · exact hr.elim
where
  ids_up : ∀ y : AV, idsLt 0 y → idsLt 1 y
    | .any, _ | .nil, _ | .p _, _ | .rpt _ _, _ => trivial
    | .ptr id _, h | .ref id _, h | .apt id _ _ _, h => by simp [idsLt] at h
    | .fn f xs, h => ids_upL xs h
    | .agg xs, h => ids_upL xs h
    | .tup xs, h => ids_upL xs h
  ids_upL : ∀ xs : List AV, idsLtL 0 xs → idsLtL 1 xs
    | [], _ => trivial
    | x :: xs, h => ⟨ids_up x h.1, ids_upL xs h.2⟩
end

theorem w_i64 {n : Int} (h1 : -9223372036854775808 ≤ n) (h2 : n ≤ 9223372036854775807) : IntKind.i64.wrap n = n := by rw [IntKind.wrap_i64]; omega
theorem w_i32 {n : Int} (h1 : -2147483648 ≤ n) (h2 : n ≤ 2147483647) : IntKind.i32.wrap n = n := by rw [IntKind.wrap_i32]; omega
theorem getD_map {α β : Type} [Inhabited α] (f : α → β) (l : List α) (k : Nat) (d : β) (h : k < l.length) : (l.map f).getD k d = f (l.getD k default) := by
  simp [h]

attribute [push_cast] Option.isSome_some List.length_map Option.isSome_none
attribute [push_cast] argAt List.map_cons List.map_nil List.getElem?_cons_zero List.getElem?_cons_succ List.getElem?_nil List.length_cons List.length_nil List.size_toArray List.take_succ_cons List.take_zero List.drop_succ_cons List.drop_zero List.cons_append List.nil_append List.append_nil
  List.all_cons List.all_nil List.set_cons_zero List.set_cons_succ List.take_nil List.drop_nil
attribute [push_cast] upd_at regK_nil contK_some regK_move regK_assign regK_pick regK_alloc regK_box regK_build regK_buildSlice regK_load regK_store regK_nilCheck regK_binOp regK_unOp regK_convert regK_makeFunc regK_makeSlice regK_slice regK_fieldAddr regK_field regK_indexAddr regK_index regK_extract regK_builtin regK_grd grdK_tt grdK_ff grdK_tf grdK_ft eqIs setY yld yldV_bool yldV_tuple setV_bool setV_tuple strip putE ev cst cst1 aop builtinS binS abinS abin envA isPtr cellsL cellB pvs toPV loadS takeS storeS idxS indexS offA
  afill rowsOf srcRows sliceS bnd mkE mkH ACs_nil thenA_n thenA_e thenA_r thenA_p blockA_n blockA_e blockA_r blockA_p condK_t condK_f resA oneA AVLe idsLt idsLtL AllE AllH idsLtCk renCk ren renL norm normL retK

end Go.Ab
