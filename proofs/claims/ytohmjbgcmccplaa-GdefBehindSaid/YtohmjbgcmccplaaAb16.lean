/- Regions whose order the model leaves open: the static check and the simulation. No condition. -/
import Derived.Test.YtohmjbgcmccplaaAb15
set_option linter.unusedVariables false
set_option linter.unusedSimpArgs false
namespace Go.Ab
open Go

/-! ### The static check, by numbers as sets -/

def bits (l : List Nat) : Nat := l.foldl (fun s t => s ||| 1 <<< t) 0

theorem bits_acc (t : Nat) : ∀ (l : List Nat) (s : Nat), (l.foldl (fun s t => s ||| 1 <<< t) s).testBit t = (s.testBit t || l.contains t)
  | [], s => by simp
  | x :: l, s => by
    rw [List.foldl_cons, bits_acc t l, Nat.testBit_or, Nat.one_shiftLeft, Nat.testBit_two_pow, List.contains_cons]
    by_cases e : x = t
    · subst e; simp
    · have : (t == x) = false := by simpa using fun h => e h.symm
      simp [e, this]

theorem bits_mem (l : List Nat) (t : Nat) : (bits l).testBit t = l.contains t := by
  unfold bits
  rw [bits_acc]
  simp

theorem and_zero {a b t : Nat} (h : a &&& b = 0) (ha : a.testBit t = true) : b.testBit t = false := by
  have : (a &&& b).testBit t = false := by rw [h]; simp
  rw [Nat.testBit_and, ha] at this
  simpa using this

structure Info where
  dst : Nat
  looks : Nat
  kind : OK

def infoOf (ds : List (Option Tmp)) (o : Oper) : Info :=
  ⟨bits (match o.dst with | some d => [d] | none => []), bits (looks ds ⟨o.dst, o.op, o.guard⟩), kindOf o.op⟩

def kindsPass : OK → OK → Bool
  | .pure, _ => true
  | _, .pure => true
  | .read, .read => true
  | .read, .new => true
  | .new, .new => true
  | _, _ => false

def passI (x y : Info) : Bool := (x.dst &&& (y.looks ||| y.dst)) == 0 && (y.dst &&& x.looks) == 0 && kindsPass x.kind y.kind

theorem passI_mayPass {ds : List (Option Tmp)} {x y : Oper} (h : passI (infoOf ds x) (infoOf ds y) = true) : mayPass ds ⟨x.dst, x.op, x.guard⟩ ⟨y.dst, y.op, y.guard⟩ = true := by
  simp only [passI, Bool.and_eq_true, beq_iff_eq, infoOf] at h
  obtain ⟨⟨h1, h2⟩, h3⟩ := h
  simp only [mayPass, slotsApart, Bool.and_eq_true]
  refine ⟨⟨?_, ?_⟩, ?_⟩
  · cases hd : x.dst with
    | none => rfl
    | some d =>
      rw [hd] at h1
      have := and_zero h1 (t := d) (by rw [bits_mem]; simp)
      rw [Nat.testBit_or, bits_mem, bits_mem] at this
      simp only [Bool.or_eq_false_iff] at this
      simp only [Bool.and_eq_true, Bool.not_eq_true', bne_iff_ne, ne_eq]
      refine ⟨this.1, ?_⟩
      intro e
      rw [e] at this
      simp at this
  · cases hd : y.dst with
    | none => rfl
    | some d =>
      rw [hd] at h2
      have := and_zero h2 (t := d) (by rw [bits_mem]; simp)
      rw [bits_mem] at this
      simp only [Bool.not_eq_true']
      exact this
  · revert h3
    cases kindOf x.op <;> cases kindOf y.op <;> intro h <;> first | rfl | exact h

def backs (o : Oper) : List Nat := (o.after.toList.filter fun e => Region.binds .any e).map (·.on)

def upSet (D : List Nat) (l : List Nat) : Nat := l.foldl (fun s j => s ||| (1 <<< j ||| D.getD j 0)) 0

theorem upSet_acc (D : List Nat) (t : Nat) : ∀ (l : List Nat) (s : Nat), (l.foldl (fun s j => s ||| (1 <<< j ||| D.getD j 0)) s).testBit t = true → s.testBit t = true ∨ ∃ e ∈ l, e = t ∨ (D.getD e 0).testBit t = true
  | [], s, h => .inl h
  | x :: l, s, h => by
    rw [List.foldl_cons] at h
    rcases upSet_acc D t l _ h with h | ⟨e, he, h⟩
    · rw [Nat.testBit_or, Nat.testBit_or, Nat.one_shiftLeft, Nat.testBit_two_pow] at h
      simp only [Bool.or_eq_true, decide_eq_true_eq] at h
      rcases h with h | h | h
      · exact .inl h
      · exact .inr ⟨x, by simp, .inl h⟩
      · exact .inr ⟨x, by simp, .inr h⟩
    · exact .inr ⟨e, by simp [he], h⟩

def ancs : List Oper → List Nat → List Nat
  | [], acc => acc
  | o :: l, acc => ancs l (acc ++ [upSet acc (backs o)])

def inner (D i : Nat) (y : Info) : Nat → List Info → Bool
  | _, [] => true
  | j, x :: l => (Nat.ble i j || D.testBit j || passI x y) && inner D i y (j + 1) l

theorem inner_at {D i : Nat} {y : Info} : ∀ {l : List Info} {j : Nat}, inner D i y j l = true → ∀ k x, l[k]? = some x → j + k < i → D.testBit (j + k) = true ∨ passI x y = true
  | [], j, h, k, x, hk, _ => by simp at hk
  | z :: l, j, h, 0, x, hk, hlt => by
    simp only [inner, Bool.and_eq_true, Bool.or_eq_true] at h
    simp at hk
    subst hk
    rcases h.1 with (h | h) | h
    · rw [Nat.ble_eq] at h; omega
    · exact .inl h
    · exact .inr h
  | z :: l, j, h, k + 1, x, hk, hlt => by
    simp only [inner, Bool.and_eq_true] at h
    have := inner_at h.2 k x (by simpa using hk) (by omega)
    rw [show j + 1 + k = j + (k + 1) by omega] at this
    exact this

def drawAt (infos : List Info) (D : List Nat) (i : Nat) (o : Oper) (y : Info) : Bool :=
  (backs o).all (fun j => Nat.blt j i) && Nat.beq (D.getD i 0) (upSet D (backs o)) && inner (D.getD i 0) i y 0 infos

def drawAll (infos : List Info) (D : List Nat) : Nat → List Oper → List Info → Bool
  | i, o :: l, y :: ys => drawAt infos D i o y && drawAll infos D (i + 1) l ys
  | _, _, _ => true

def drawOK (ops : List Oper) (D : List Nat) : Bool := drawAll (ops.map (infoOf (ops.map (·.dst)))) D 0 ops (ops.map (infoOf (ops.map (·.dst))))

theorem drawAll_at {infos : List Info} {D : List Nat} : ∀ {l : List Oper} {ys : List Info} {i : Nat}, drawAll infos D i l ys = true → ∀ k o y, l[k]? = some o → ys[k]? = some y → drawAt infos D (i + k) o y = true
  | [], ys, i, h, k, o, y, hk, _ => by simp at hk
  | x :: l, [], i, h, k, o, y, _, hy => by simp at hy
  | x :: l, z :: ys, i, h, 0, o, y, hk, hy => by
    simp only [drawAll, Bool.and_eq_true] at h
    simp at hk hy
    subst hk; subst hy
    exact h.1
  | x :: l, z :: ys, i, h, k + 1, o, y, hk, hy => by
    simp only [drawAll, Bool.and_eq_true] at h
    have := drawAll_at h.2 k o y (by simpa using hk) (by simpa using hy)
    rw [show i + 1 + k = i + (k + 1) by omega] at this
    exact this

structure DrawFacts (ops : Array Oper) (D : Nat → Nat → Prop) : Prop where
  back : ∀ i o, ops[i]? = some o → ∀ j ∈ backs o, j < i
  anc : ∀ i o, ops[i]? = some o → ∀ j, D i j → ∃ e ∈ backs o, e = j ∨ D e j
  pass : ∀ i o j x, ops[i]? = some o → j < i → ops[j]? = some x → D i j ∨ mayPass (ops.toList.map (·.dst)) ⟨x.dst, x.op, x.guard⟩ ⟨o.dst, o.op, o.guard⟩ = true

theorem drawOK_facts {ops : Array Oper} {D : List Nat} (h : drawOK ops.toList D = true) : DrawFacts ops (fun i j => (D.getD i 0).testBit j = true) := by
  unfold drawOK at h
  have key : ∀ i o, ops[i]? = some o → drawAt (ops.toList.map (infoOf (ops.toList.map (·.dst)))) D i o (infoOf (ops.toList.map (·.dst)) o) = true := fun i o ho => by
    have := drawAll_at h i o (infoOf (ops.toList.map (·.dst)) o) (by simpa using ho) (by simp [ho])
    rw [Nat.zero_add] at this
    exact this
  refine ⟨fun i o ho j hj => ?_, fun i o ho j hj => ?_, fun i o j x ho hji hx => ?_⟩
  · have := key i o ho
    simp only [drawAt, Bool.and_eq_true] at this
    have := List.all_eq_true.1 this.1.1 j hj
    simpa [Nat.blt_eq] using this
  · have := key i o ho
    simp only [drawAt, Bool.and_eq_true] at this
    have h2 := Nat.eq_of_beq_eq_true this.1.2
    rw [h2] at hj
    unfold upSet at hj
    rcases upSet_acc D j (backs o) 0 hj with h | h
    · simp at h
    · exact h
  · have := key i o ho
    simp only [drawAt, Bool.and_eq_true] at this
    have := inner_at this.2 j (infoOf (ops.toList.map (·.dst)) x) (by simp [hx]) (by omega)
    rw [Nat.zero_add] at this
    rcases this with h | h
    · exact .inl h
    · exact .inr (passI_mayPass h)

/-! ### The text's order -/

def contD (P : Program) (D : Nat → List SOp → AEnv → AHeap → Prop) (nid : Nat) (r : Option (Prop × AV × AHeap)) (dst : Option Tmp) (l : List SOp) (env : AEnv) : Prop :=
  match r with
  | some (s, x, h') => s ∧ D (nid + 1) l (putE env dst x) h'
  | none => False

/-- One call that tells one thing. -/
def callD (P : Program) (env : AEnv) (fo : Operand) (args : List AV) (K : AV → Prop) : Prop :=
  match calleeA env fo with
  | some (f, caps) => callable P f = true ∧ ∃ x, AFun P f (normL (args ++ caps)) x ∧ idsLtL 0 (normL (args ++ caps)) ∧ idsLt 0 x ∧ K x
  | none => False

def execD (P : Program) (nid : Nat) (env : AEnv) (h : AHeap) (op : Op) (K : AV → AHeap → Prop) : Prop :=
  match op with
  | .call { callee := .value fo, args, .. } => callD P env fo (args.toList.map (ev env)) (fun x => K x h)
  | .panic _ => False
  | op => match aop P nid env h op with
    | some (s, x, h') => s ∧ K x h'
    | none => False

def regD (P : Program) (ds : List (Option Tmp)) (K : AEnv → AHeap → Prop) : Nat → List SOp → AEnv → AHeap → Prop
  | _, [], env, h => K env h
  | nid, o :: l, env, h => match o.guard with
    | none => execD P nid env h o.op (fun x h' => regD P ds K (nid + 1) l (putE env o.dst x) h')
    | some (j, want) => match yld ds env j want with
      | some b => (b = want → execD P nid env h o.op (fun x h' => regD P ds K (nid + 1) l (putE env o.dst x) h')) ∧
          (b ≠ want → regD P ds K (nid + 1) l (putE env o.dst (.p (.sc (.tuple #[])))) h)
      | none => False

/-- The same, with the freshness of each number told. -/
def TDs (P : Program) (ds : List (Option Tmp)) (K : AEnv → AHeap → Prop) : List (Nat × SOp) → AEnv → AHeap → Prop
  | [], env, h => K env h
  | (n, o) :: l, env, h => TD P ds o n (TDs P ds K l) env h

theorem TD_mono {P : Program} {ds : List (Option Tmp)} {o : SOp} {n : Nat} {K K' : AEnv → AHeap → Prop} (hk : ∀ env h, K env h → K' env h) {env : AEnv} {h : AHeap} (ht : TD P ds o n K env h) : TD P ds o n K' env h := by
  unfold TD at ht ⊢
  cases hg : o.guard with
  | none =>
    rw [hg] at ht
    obtain ⟨x, h', a, b⟩ := ht
    exact ⟨x, h', a, hk _ _ b⟩
  | some jw =>
    obtain ⟨j, w⟩ := jw
    rw [hg] at ht
    obtain ⟨b, hb, t1, t2⟩ := ht
    exact ⟨b, hb, fun e => by obtain ⟨x, h', a, b⟩ := t1 e; exact ⟨x, h', a, hk _ _ b⟩, fun e => hk _ _ (t2 e)⟩

theorem TDs_pull {P : Program} {ds : List (Option Tmp)} {K : AEnv → AHeap → Prop} {n : Nat} {y : SOp} {post : List (Nat × SOp)} : ∀ (pre : List (Nat × SOp)), (∀ q ∈ pre, q.1 ≠ n ∧ mayPass ds q.2 y = true) → ∀ {env : AEnv} {h : AHeap},
    TDs P ds K (pre ++ (n, y) :: post) env h → TD P ds y n (TDs P ds K (pre ++ post)) env h
  | [], _, env, h, ht => ht
  | (n1, x) :: pre, hp, env, h, ht => by
    have h1 := hp (n1, x) (by simp)
    refine TD_swap h1.1 h1.2 ?_
    exact TD_mono (fun env h hh => TDs_pull pre (fun q hq => hp q (by simp [hq])) hh) ht

end Go.Ab
