/- Regions whose order the model leaves open: one walk in the text's order serves every order. No condition. -/
import Derived.Test.YtohmjbgcmccplaaAb14
import Derived.Orders
set_option linter.unusedVariables false
set_option linter.unusedSimpArgs false
namespace Go.Ab
open Go

/-! ### Kinds of operations -/

inductive OK where
  | pure | read | new | other
  deriving DecidableEq

def kindOf : Op → OK
  | .move _ | .assign _ | .pick _ _ _ | .build _ _ | .buildSlice _ _ _ | .nilCheck _ | .binOp _ _ _ _ _ | .unOp _ _ _ | .convert _ _ _ | .makeFunc _ _ _ | .slice _ _ _ _ _ | .fieldAddr _ _ _ | .field _ _ _ | .indexAddr _ _ _ | .index _ _ _ | .extract _ _ => .pure
  | .call { callee := .value _, .. } => .pure
  | .call { callee := .builtin .len, .. } => .pure
  | .call { callee := .builtin .min, .. } => .pure
  | .call { callee := .builtin .max, .. } => .pure
  | .load _ _ => .read
  | .alloc _ | .box _ _ | .makeSlice _ _ _ => .new
  | _ => .other

def tmpsOf (op : Op) : List Tmp := op.operands.toList.filterMap fun | .tmp t => some t | _ => none

theorem ev_congr {env env' : AEnv} {y : Operand} (h : ∀ t, y = .tmp t → env t = env' t) : ev env y = ev env' y := by
  cases y with
  | tmp t => exact h t rfl
  | _ => rfl

theorem rowsOf_congr {env env' : AEnv} : ∀ (l : List (Nat × Operand)) (k : Nat), (∀ q ∈ l, ev env q.2 = ev env' q.2) → rowsOf env k l = rowsOf env' k l
  | [], k, _ => rfl
  | (i, x) :: l, k, h => by
    simp only [rowsOf, h (i, x) (by simp), rowsOf_congr l (k + 1) (fun q hq => h q (by simp [hq]))]

theorem bnd_congr {env env' : AEnv} {d : Nat} {x : Option Operand} (h : ∀ y, x = some y → ev env y = ev env' y) : bnd env d x = bnd env' d x := by
  cases x with
  | none => rfl
  | some y => simp only [bnd, h y rfl]

theorem aop_congr {P : Program} {nid : Nat} {env env' : AEnv} {h : AHeap} {op : Op} (he : ∀ y ∈ op.operands.toList, ev env y = ev env' y) : aop P nid env h op = aop P nid env' h op := by
  cases op <;> simp only [Op.operands] at he <;> simp only [aop] <;> try rfl
  case move x => rw [he x (by simp)]
  case assign x => rw [he x (by simp)]
  case pick c x y => rw [he c (by simp), he x (by simp), he y (by simp)]
  case box t x => rw [he x (by simp)]
  case build t ps =>
    have : (ps.toList.map fun q => (q.1, ev env q.2)) = ps.toList.map fun q => (q.1, ev env' q.2) := List.map_congr_left fun q hq => by rw [he q.2 (by simpa using ⟨q.1, by simpa using hq⟩)]
    rw [this]
  case buildSlice t n ps => rw [rowsOf_congr ps.toList 0 (fun q hq => he q.2 (by simpa using ⟨q.1, by simpa using hq⟩))]
  case load t x => rw [he x (by simp)]
  case store t x v => rw [he x (by simp), he v (by simp)]
  case nilCheck x => rw [he x (by simp)]
  case binOp b t x y t' => rw [he x (by simp), he y (by simp)]
  case unOp u t x => rw [he x (by simp)]
  case convert s d x => rw [he x (by simp)]
  case makeFunc fn first caps =>
    have : caps.toList.map (ev env) = caps.toList.map (ev env') := List.map_congr_left fun q hq => he q (by simp; exact .inr (by simpa using hq))
    rw [this]
  case makeSlice t x y => rw [he x (by simp), he y (by simp)]
  case slice t x lo hi mx =>
    cases mx with
    | some _ => rfl
    | none =>
      have h1 := he x (by simp)
      have hlo : ∀ d, bnd env d lo = bnd env' d lo := fun d => bnd_congr fun y hy => he y (by simp [hy])
      have hhi : ∀ d, bnd env d hi = bnd env' d hi := fun d => bnd_congr fun y hy => he y (by simp [hy])
      simp only [sliceS, h1, hlo, hhi]
  case fieldAddr t x f => rw [he x (by simp)]
  case field t x f => rw [he x (by simp)]
  case indexAddr t x y => rw [he x (by simp), he y (by simp)]
  case index t x y => rw [he x (by simp), he y (by simp)]
  case extract x i => rw [he x (by simp)]
  case call c =>
    obtain ⟨callee, ⟨args⟩, ⟨ats⟩⟩ := c
    cases callee <;> try rfl
    rename_i b
    simp only [Call.operands] at he
    have he' : ∀ y ∈ args, ev env y = ev env' y := fun y hy => he y (by simp [hy])
    simp only [builtinS]
    split <;> try rfl
    · rename_i x t; rw [he' x (by simp)]
    · rename_i x y; rw [he' x (by simp), he' y (by simp)]
    · rename_i x y; rw [he' x (by simp), he' y (by simp)]
    · rename_i s x t t'; rw [he' s (by simp), he' x (by simp)]

/-- A pure operation asks nothing of the heap. -/
theorem aop_pure {P : Program} {nid : Nat} {env : AEnv} {h h' : AHeap} {op : Op} {s : Prop} {x : AV} (hk : kindOf op = .pure) (ha : aop P nid env h op = some (s, x, h')) :
    h' = h ∧ ∀ nid2 h2, aop P nid2 env h2 op = some (s, x, h2) := by
  cases op <;> simp only [kindOf, reduceCtorEq] at hk <;> simp only [aop] at ha ⊢ <;> try (cases ha; done)
  case move x => injection ha with ha; injection ha with h1 ha; injection ha with h2 h3; subst h1; subst h2; exact ⟨h3.symm, fun _ _ => rfl⟩
  case assign x => injection ha with ha; injection ha with h1 ha; injection ha with h2 h3; subst h1; subst h2; exact ⟨h3.symm, fun _ _ => rfl⟩
  case call c =>
    obtain ⟨callee, ⟨args⟩, ⟨ats⟩⟩ := c
    cases callee <;> simp only [] at ha hk <;> try (first | cases ha | cases hk)
    rename_i b
    simp only [builtinS] at ha ⊢
    cases b <;> simp only [kindOf, reduceCtorEq] at hk
    all_goals
      split at ha <;> try (first | (cases ha; done) | (rename_i heq; cases heq; done) | (rename_i heq _; cases heq; done))
      split at ha <;> first
        | (cases ha; done)
        | (injection ha with ha; injection ha with h1 ha; injection ha with h2 h3; subst h1; subst h2; refine ⟨h3.symm, fun _ _ => ?_⟩; simp_all)
  all_goals
    repeat' (split at ha)
    all_goals first
      | (cases ha; done)
      | (injection ha with ha; injection ha with h1 ha; injection ha with h2 h3; subst h1; subst h2; refine ⟨h3.symm, fun _ _ => ?_⟩; simp_all)

theorem loadS_more {h h2 : AHeap} {y : TyF} {a x : AV} {s : Prop} (hm : ∀ id ck, h id = some ck → h2 id = some ck) (hl : loadS h y a = some (s, x)) : loadS h2 y a = some (s, x) := by
  unfold loadS at hl ⊢
  split at hl
  · split at hl
    · rename_i h1; simp only [hm _ _ h1]; exact hl
    · cases hl
  · split at hl
    · rename_i h1; simp only [hm _ _ h1]; exact hl
    · rename_i h1; simp only [hm _ _ h1]; exact hl
    · cases hl
  · exact hl
  · cases hl

theorem aop_read {P : Program} {nid : Nat} {env : AEnv} {h h' : AHeap} {op : Op} {s : Prop} {x : AV} (hk : kindOf op = .read) (ha : aop P nid env h op = some (s, x, h')) :
    h' = h ∧ ∀ nid2 h2, (∀ id ck, h id = some ck → h2 id = some ck) → aop P nid2 env h2 op = some (s, x, h2) := by
  cases op <;> simp only [kindOf, reduceCtorEq] at hk
  case load t a =>
    simp only [aop] at ha ⊢
    split at ha
    · rename_i y hy
      split at ha
      · rename_i s' r hl
        injection ha with ha; injection ha with h1 ha; injection ha with h2 h3; subst h1; subst h2
        refine ⟨h3.symm, fun nid2 h2 hm => ?_⟩
        simp only [loadS_more hm hl]
      · cases ha
    · cases ha
  case call c =>
    obtain ⟨callee, args, ats⟩ := c
    cases callee <;> try (simp only [kindOf, reduceCtorEq] at hk; done)
    rename_i b
    cases b <;> simp only [kindOf, reduceCtorEq] at hk

theorem aop_new {P : Program} {nid : Nat} {env : AEnv} {h h' : AHeap} {op : Op} {s : Prop} {x : AV} (hk : kindOf op = .new) (ha : aop P nid env h op = some (s, x, h')) :
    ∃ ck, h' = upd h nid (some ck) ∧ ∀ h2, aop P nid env h2 op = some (s, x, upd h2 nid (some ck)) := by
  cases op <;> simp only [kindOf, reduceCtorEq] at hk
  case call c =>
    obtain ⟨callee, args, ats⟩ := c
    cases callee <;> try (simp only [kindOf, reduceCtorEq] at hk; done)
    rename_i b
    cases b <;> simp only [kindOf, reduceCtorEq] at hk
  all_goals
    simp only [aop] at ha ⊢
    repeat' (split at ha)
    all_goals first
      | (cases ha; done)
      | (injection ha with ha; injection ha with h1 ha; injection ha with h2 h3; subst h1; subst h2; refine ⟨_, h3.symm, fun _ => ?_⟩; simp_all)

/-! ### One operation, as a step -/

def stepD (P : Program) (nid : Nat) (env : AEnv) (h : AHeap) (op : Op) (x : AV) (h' : AHeap) : Prop :=
  match op with
  | .call { callee := .value fo, args, .. } => ∃ f caps, calleeA env fo = some (f, caps) ∧ callable P f = true ∧ AFun P f (normL (args.toList.map (ev env) ++ caps)) x ∧ idsLtL 0 (normL (args.toList.map (ev env) ++ caps)) ∧ idsLt 0 x ∧ h' = h
  | .panic _ => False
  | op => (kindOf op = .new → h nid = none) ∧ ∃ s, aop P nid env h op = some (s, x, h') ∧ s

def TD (P : Program) (ds : List (Option Tmp)) (o : SOp) (nid : Nat) (K : AEnv → AHeap → Prop) (env : AEnv) (h : AHeap) : Prop :=
  match o.guard with
  | none => ∃ x h', stepD P nid env h o.op x h' ∧ K (putE env o.dst x) h'
  | some (j, want) => ∃ b, yld ds env j want = some b ∧ (b = want → ∃ x h', stepD P nid env h o.op x h' ∧ K (putE env o.dst x) h') ∧ (b ≠ want → K (putE env o.dst (.p (.sc (.tuple #[])))) h)

/-- Which slots an operation looks at. -/
def looks (ds : List (Option Tmp)) (o : SOp) : List Tmp := tmpsOf o.op ++ (match o.guard with | some (j, _) => (match ds[j]? with | some (some d) => [d] | _ => []) | none => [])

def slotsApart (ds : List (Option Tmp)) (x y : SOp) : Bool :=
  (match x.dst with
   | some d => !(looks ds y).contains d && y.dst != some d
   | none => true) &&
  (match y.dst with
   | some d => !(looks ds x).contains d
   | none => true)

/-- May y, which stands behind x in the text, be done ahead of it? -/
def mayPass (ds : List (Option Tmp)) (x y : SOp) : Bool :=
  slotsApart ds x y && (match kindOf x.op, kindOf y.op with
    | .pure, _ => true
    | _, .pure => true
    | .read, .read => true
    | .read, .new => true
    | .new, .new => true
    | _, _ => false)

theorem put_other {env : AEnv} {d : Option Tmp} {x : AV} {t : Tmp} (h : ∀ e, d = some e → e ≠ t) : putE env d x t = env t := by
  cases d with
  | none => rfl
  | some e => exact upd_other _ _ (Ne.symm (h e rfl))

theorem ev_put {env : AEnv} {d : Option Tmp} {x : AV} {y : Operand} (h : ∀ e, d = some e → y ≠ .tmp e) : ev (putE env d x) y = ev env y :=
  ev_congr fun t ht => put_other fun e he hh => h e he (by rw [ht, hh])

theorem step_put {P : Program} {nid : Nat} {env : AEnv} {h h' : AHeap} {op : Op} {x z : AV} {d : Option Tmp} (hd : ∀ e, d = some e → e ∉ tmpsOf op) : stepD P nid (putE env d z) h op x h' ↔ stepD P nid env h op x h' := by
  have he : ∀ y ∈ op.operands.toList, ev (putE env d z) y = ev env y := fun y hy => ev_put fun e hde hye => hd e hde (by
    unfold tmpsOf
    rw [List.mem_filterMap]
    exact ⟨y, hy, by rw [hye]⟩)
  unfold stepD
  split
  · rename_i fo args ats
    have h1 : calleeA (putE env d z) fo = calleeA env fo := by
      unfold calleeA
      rw [he fo (by simp [Op.operands, Call.operands])]
    have h2 : args.toList.map (ev (putE env d z)) = args.toList.map (ev env) := List.map_congr_left fun y hy => he y (by simp [Op.operands, Call.operands]; exact .inr (by simpa using hy))
    rw [h1, h2]
  · exact Iff.rfl
  · rw [aop_congr he]

theorem yld_put {ds : List (Option Tmp)} {env : AEnv} {j : Nat} {w : Bool} {z : AV} {d : Option Tmp} (hd : ∀ e, d = some e → ∀ t, ds[j]? = some (some t) → e ≠ t) : yld ds (putE env d z) j w = yld ds env j w := by
  unfold yld
  split
  · rename_i t ht
    rw [put_other fun e he => hd e he t ht]
  · rfl

theorem put_comm {env : AEnv} {d e : Option Tmp} {x y : AV} (h : ∀ a, d = some a → e ≠ some a) : putE (putE env d x) e y = putE (putE env e y) d x := by
  cases d with
  | none => rfl
  | some a =>
    cases e with
    | none => rfl
    | some b =>
      have : b ≠ a := fun hh => h a rfl (by rw [hh])
      exact upd_comm _ _ _ this

/-- The heart: two steps change places. -/
theorem step_swap {P : Program} {n1 n2 : Nat} {env : AEnv} {h h1 h2 : AHeap} {o1 o2 : Op} {x y : AV} (hn : n1 ≠ n2)
    (hk : (match kindOf o1, kindOf o2 with | .pure, _ => true | _, .pure => true | .read, .read => true | .read, .new => true | .new, .new => true | _, _ => false) = true)
    (s1 : stepD P n1 env h o1 x h1) (s2 : stepD P n2 env h1 o2 y h2) : ∃ h3, stepD P n2 env h o2 y h3 ∧ stepD P n1 env h3 o1 x h2 := by
  have pureS : ∀ {n : Nat} {g g' : AHeap} {op : Op} {z : AV}, kindOf op = .pure → stepD P n env g op z g' → g' = g ∧ ∀ g2, stepD P n env g2 op z g2 := by
    intro n g g' op z hp hs
    unfold stepD at hs ⊢
    split at hs
    · obtain ⟨f, caps, q1, q2, q3, q4, q5, q6⟩ := hs
      exact ⟨q6, fun g2 => ⟨f, caps, q1, q2, q3, q4, q5, rfl⟩⟩
    · exact hs.elim
    · obtain ⟨_, s, q1, q2⟩ := hs
      obtain ⟨e, hh⟩ := aop_pure hp q1
      refine ⟨e, fun g2 => ?_⟩
      exact ⟨fun h => by (rw [hp] at h; cases h), s, hh n g2, q2⟩
  have plain : ∀ {n : Nat} {g g' : AHeap} {op : Op} {z : AV}, (kindOf op = .read ∨ kindOf op = .new) → (stepD P n env g op z g' ↔ ((kindOf op = .new → g n = none) ∧ ∃ s, aop P n env g op = some (s, z, g') ∧ s)) := by
    intro n g g' op z hp
    unfold stepD
    split
    · simp [kindOf] at hp
    · simp [kindOf] at hp
    · exact Iff.rfl
  by_cases p1 : kindOf o1 = .pure
  · obtain ⟨e, hh⟩ := pureS p1 s1
    subst e
    exact ⟨h2, s2, hh h2⟩
  by_cases p2 : kindOf o2 = .pure
  · obtain ⟨e, hh⟩ := pureS p2 s2
    subst e
    exact ⟨h, hh h, s1⟩
  have cases1 : (kindOf o1 = .read ∨ kindOf o1 = .new) ∧ (kindOf o2 = .read ∨ kindOf o2 = .new) ∧ (kindOf o1 = .new → kindOf o2 = .new) := by
    cases k1 : kindOf o1 <;> cases k2 : kindOf o2 <;> simp_all
  obtain ⟨c1, c2, c3⟩ := cases1
  rw [plain c1] at s1
  rw [plain c2] at s2
  obtain ⟨f1, a1, q1, t1⟩ := s1
  obtain ⟨f2, a2, q2, t2⟩ := s2
  rcases c1 with c1 | c1
  · obtain ⟨e, hh⟩ := aop_read c1 q1
    subst e
    rcases c2 with c2 | c2
    · obtain ⟨e, hh2⟩ := aop_read c2 q2
      subst e
      exact ⟨_, (plain (.inl c2)).2 ⟨f2, a2, q2, t2⟩, (plain (.inl c1)).2 ⟨f1, a1, q1, t1⟩⟩
    · obtain ⟨ck, e, hh2⟩ := aop_new c2 q2
      subst e
      have hfree := f2 c2
      refine ⟨_, (plain (.inr c2)).2 ⟨f2, a2, q2, t2⟩, (plain (.inl c1)).2 ⟨fun hh => by (rw [c1] at hh; cases hh), a1, hh n1 _ (fun id ck' hid => ?_), t1⟩⟩
      rw [upd_other _ _ (fun e => by subst e; rw [hfree] at hid; cases hid)]
      exact hid
  · have c2 := c3 c1
    obtain ⟨ck1, e1, hh1⟩ := aop_new c1 q1
    obtain ⟨ck2, e2, hh2⟩ := aop_new c2 q2
    subst e1; subst e2
    have g1 := f1 c1
    have g2 := f2 c2
    rw [upd_other _ _ (Ne.symm hn)] at g2
    refine ⟨upd h n2 (some ck2), (plain (.inr c2)).2 ⟨fun _ => g2, a2, hh2 h, t2⟩, (plain (.inr c1)).2 ⟨fun _ => by (rw [upd_other _ _ hn]; exact g1), a1, ?_, t1⟩⟩
    rw [hh1 (upd h n2 (some ck2)), upd_comm _ _ _ (Ne.symm hn)]

theorem looks_mem {ds : List (Option Tmp)} {o : SOp} {d : Tmp} (h : (looks ds o).contains d = false) : d ∉ tmpsOf o.op ∧ ∀ j w, o.guard = some (j, w) → ∀ t, ds[j]? = some (some t) → d ≠ t := by
  have hd : d ∉ looks ds o := by simpa using h
  unfold looks at hd
  rw [List.mem_append] at hd
  refine ⟨fun e => hd (.inl e), fun j w hg t ht e => hd (.inr ?_)⟩
  rw [hg]
  simp [ht, e]

theorem TD_swap {P : Program} {ds : List (Option Tmp)} {x y : SOp} {n1 n2 : Nat} {K : AEnv → AHeap → Prop} (hn : n1 ≠ n2) (hp : mayPass ds x y = true) {env : AEnv} {h : AHeap} (ht : TD P ds x n1 (TD P ds y n2 K) env h) :
    TD P ds y n2 (TD P ds x n1 K) env h := by
  simp only [mayPass, slotsApart, Bool.and_eq_true] at hp
  obtain ⟨⟨ha, hb⟩, hk⟩ := hp
  have hx : ∀ d, x.dst = some d → d ∉ tmpsOf y.op ∧ (∀ j w, y.guard = some (j, w) → ∀ t, ds[j]? = some (some t) → d ≠ t) ∧ y.dst ≠ some d := by
    intro d hd
    rw [hd] at ha
    simp only [Bool.and_eq_true, Bool.not_eq_true', bne_iff_ne, ne_eq] at ha
    obtain ⟨q1, q2⟩ := looks_mem ha.1
    exact ⟨q1, q2, ha.2⟩
  have hy : ∀ d, y.dst = some d → d ∉ tmpsOf x.op ∧ ∀ j w, x.guard = some (j, w) → ∀ t, ds[j]? = some (some t) → d ≠ t := by
    intro d hd
    rw [hd] at hb
    simp only [Bool.not_eq_true'] at hb
    exact looks_mem hb
  have comm : ∀ u v, putE (putE env x.dst u) y.dst v = putE (putE env y.dst v) x.dst u := fun u v => put_comm fun a ha => (hx a ha).2.2
  have yx : ∀ u g z g', stepD P n2 (putE env x.dst u) g y.op z g' ↔ stepD P n2 env g y.op z g' := fun u g z g' => step_put fun e he => (hx e he).1
  have xy : ∀ u g z g', stepD P n1 (putE env y.dst u) g x.op z g' ↔ stepD P n1 env g x.op z g' := fun u g z g' => step_put fun e he => (hy e he).1
  -- what each way through x leaves for y
  have gy : ∀ u j w, y.guard = some (j, w) → yld ds (putE env x.dst u) j w = yld ds env j w := fun u j w hg => yld_put fun e he t ht => (hx e he).2.1 j w hg t ht
  have gx : ∀ u j w, x.guard = some (j, w) → yld ds (putE env y.dst u) j w = yld ds env j w := fun u j w hg => yld_put fun e he t ht => (hy e he).2 j w hg t ht
  -- the four ways, as plain pieces
  have exexe : ∀ {g : AHeap} {u : AV} {g1 : AHeap} {v : AV} {g2 : AHeap}, stepD P n1 env g x.op u g1 → stepD P n2 env g1 y.op v g2 → K (putE (putE env x.dst u) y.dst v) g2 →
      ∃ g3, stepD P n2 env g y.op v g3 ∧ stepD P n1 env g3 x.op u g2 ∧ K (putE (putE env y.dst v) x.dst u) g2 := by
    intro g u g1 v g2 s1 s2 hK
    obtain ⟨g3, q1, q2⟩ := step_swap hn hk s1 s2
    exact ⟨g3, q1, q2, by rw [← comm]; exact hK⟩
  unfold TD at ht ⊢
  cases hgx : x.guard with
  | none =>
    rw [hgx] at ht
    simp only [] at ht ⊢
    obtain ⟨u, g1, s1, ht⟩ := ht
    cases hgy : y.guard with
    | none =>
      rw [hgy] at ht
      simp only [] at ht ⊢
      obtain ⟨v, g2, s2, hK⟩ := ht
      obtain ⟨g3, q1, q2, q3⟩ := exexe s1 ((yx _ _ _ _).1 s2) hK
      exact ⟨v, g3, q1, u, g2, (xy _ _ _ _).2 q2, q3⟩
    | some jw =>
      obtain ⟨j, w⟩ := jw
      rw [hgy] at ht
      simp only [] at ht ⊢
      obtain ⟨b, hb, t1, t2⟩ := ht
      rw [gy u j w hgy] at hb
      refine ⟨b, hb, fun e => ?_, fun e => ?_⟩
      · obtain ⟨v, g2, s2, hK⟩ := t1 e
        obtain ⟨g3, q1, q2, q3⟩ := exexe s1 ((yx _ _ _ _).1 s2) hK
        exact ⟨v, g3, q1, u, g2, (xy _ _ _ _).2 q2, q3⟩
      · exact ⟨u, g1, (xy _ _ _ _).2 s1, by rw [← comm]; exact t2 e⟩
  | some jw =>
    obtain ⟨j1, w1⟩ := jw
    rw [hgx] at ht
    simp only [] at ht
    obtain ⟨b1, hb1, t1, t2⟩ := ht
    cases hgy : y.guard with
    | none =>
      rw [hgy] at t1 t2
      simp only [] at t1 t2 ⊢
      by_cases e : b1 = w1
      · obtain ⟨u, g1, s1, v, g2, s2, hK⟩ := t1 e
        obtain ⟨g3, q1, q2, q3⟩ := exexe s1 ((yx _ _ _ _).1 s2) hK
        exact ⟨v, g3, q1, b1, by rw [gx v j1 w1 hgx]; exact hb1, fun _ => ⟨u, g2, (xy _ _ _ _).2 q2, q3⟩, fun h => absurd e h⟩
      · obtain ⟨v, g2, s2, hK⟩ := t2 e
        exact ⟨v, g2, (yx _ _ _ _).1 s2, b1, by rw [gx v j1 w1 hgx]; exact hb1, fun h => absurd h e, fun _ => by rw [← comm]; exact hK⟩
    | some jw2 =>
      obtain ⟨j2, w2⟩ := jw2
      rw [hgy] at t1 t2
      simp only [] at t1 t2 ⊢
      by_cases e : b1 = w1
      · obtain ⟨u, g1, s1, b2, hb2, r1, r2⟩ := t1 e
        rw [gy u j2 w2 hgy] at hb2
        refine ⟨b2, hb2, fun e2 => ?_, fun e2 => ?_⟩
        · obtain ⟨v, g2, s2, hK⟩ := r1 e2
          obtain ⟨g3, q1, q2, q3⟩ := exexe s1 ((yx _ _ _ _).1 s2) hK
          exact ⟨v, g3, q1, b1, by rw [gx v j1 w1 hgx]; exact hb1, fun _ => ⟨u, g2, (xy _ _ _ _).2 q2, q3⟩, fun h => absurd e h⟩
        · exact ⟨b1, by rw [gx _ j1 w1 hgx]; exact hb1, fun _ => ⟨u, g1, (xy _ _ _ _).2 s1, by rw [← comm]; exact r2 e2⟩, fun h => absurd e h⟩
      · obtain ⟨b2, hb2, r1, r2⟩ := t2 e
        rw [gy _ j2 w2 hgy] at hb2
        refine ⟨b2, hb2, fun e2 => ?_, fun e2 => ?_⟩
        · obtain ⟨v, g2, s2, hK⟩ := r1 e2
          exact ⟨v, g2, (yx _ _ _ _).1 s2, b1, by rw [gx v j1 w1 hgx]; exact hb1, fun h => absurd h e, fun _ => by rw [← comm]; exact hK⟩
        · exact ⟨b1, by rw [gx _ j1 w1 hgx]; exact hb1, fun h => absurd h e, fun _ => by rw [← comm]; exact r2 e2⟩

end Go.Ab
