/- Regions that draw their order, functions that are handed chunks, and the driver's equations. No condition. -/
import Derived.Test.YtohmjbgcmccplaaAa2
import Derived.Orders
set_option linter.unusedVariables false
set_option linter.unusedSimpArgs false
namespace Go.Ab
open Go

/-! ### Kinds of operations -/

inductive OK where
  | pure | read | new | other
  deriving DecidableEq

def kindOf : Op → OK
  | .move _ | .assign _ | .pick _ _ _ | .build _ _ | .buildSlice _ _ _ | .nilCheck _ | .binOp _ _ _ _ _ | .unOp _ _ _ | .convert _ _ _ | .makeFunc _ _ _ | .slice _ _ _ _ _ | .fieldAddr _ _ _ | .field _ _ _ | .indexAddr _ _ _ | .index _ _ _ | .extract _ _ => .pure
  | .call { callee := .value _, .. } => .pure
  | .call { callee := .builtin .len, .. } => .pure
  | .call { callee := .builtin .min, .. } => .pure
  | .call { callee := .builtin .max, .. } => .pure
  | .load _ _ => .read
  | .alloc _ | .box _ _ | .makeSlice _ _ _ => .new
  | _ => .other

def tmpsOf (op : Op) : List Tmp := op.operands.toList.filterMap fun | .tmp t => some t | _ => none

theorem ev_congr {env env' : AEnv} {y : Operand} (h : ∀ t, y = .tmp t → env t = env' t) : ev env y = ev env' y := by
  cases y with
  | tmp t => exact h t rfl
  | _ => rfl

theorem rowsOf_congr {env env' : AEnv} : ∀ (l : List (Nat × Operand)) (k : Nat), (∀ q ∈ l, ev env q.2 = ev env' q.2) → rowsOf env k l = rowsOf env' k l
  | [], k, _ => rfl
  | (i, x) :: l, k, h => by
    simp only [rowsOf, h (i, x) (by simp), rowsOf_congr l (k + 1) (fun q hq => h q (by simp [hq]))]

theorem bnd_congr {env env' : AEnv} {d : Nat} {x : Option Operand} (h : ∀ y, x = some y → ev env y = ev env' y) : bnd env d x = bnd env' d x := by
  cases x with
  | none => rfl
  | some y => simp only [bnd, h y rfl]

theorem aop_congr {P : Program} {nid : Nat} {env env' : AEnv} {h : AHeap} {op : Op} (he : ∀ y ∈ op.operands.toList, ev env y = ev env' y) : aop P nid env h op = aop P nid env' h op := by
  cases op <;> simp only [Op.operands] at he <;> simp only [aop] <;> try rfl
  case move x => rw [he x (by simp)]
  case assign x => rw [he x (by simp)]
  case pick c x y => rw [he c (by simp), he x (by simp), he y (by simp)]
  case box t x => rw [he x (by simp)]
  case build t ps =>
    have : (ps.toList.map fun q => (q.1, ev env q.2)) = ps.toList.map fun q => (q.1, ev env' q.2) := List.map_congr_left fun q hq => by rw [he q.2 (by simpa using ⟨q.1, by simpa using hq⟩)]
    rw [this]
  case buildSlice t n ps => rw [rowsOf_congr ps.toList 0 (fun q hq => he q.2 (by simpa using ⟨q.1, by simpa using hq⟩))]
  case load t x => rw [he x (by simp)]
  case store t x v => rw [he x (by simp), he v (by simp)]
  case nilCheck x => rw [he x (by simp)]
  case binOp b t x y t' => rw [he x (by simp), he y (by simp)]
  case unOp u t x => rw [he x (by simp)]
  case convert s d x => rw [he x (by simp)]
  case makeFunc fn first caps =>
    have : caps.toList.map (ev env) = caps.toList.map (ev env') := List.map_congr_left fun q hq => he q (by simp; exact .inr (by simpa using hq))
    rw [this]
  case makeSlice t x y => rw [he x (by simp), he y (by simp)]
  case slice t x lo hi mx =>
    cases mx with
    | some _ => rfl
    | none =>
      have h1 := he x (by simp)
      have hlo : ∀ d, bnd env d lo = bnd env' d lo := fun d => bnd_congr fun y hy => he y (by simp [hy])
      have hhi : ∀ d, bnd env d hi = bnd env' d hi := fun d => bnd_congr fun y hy => he y (by simp [hy])
      simp only [sliceS, h1, hlo, hhi]
  case fieldAddr t x f => rw [he x (by simp)]
  case field t x f => rw [he x (by simp)]
  case indexAddr t x y => rw [he x (by simp), he y (by simp)]
  case index t x y => rw [he x (by simp), he y (by simp)]
  case extract x i => rw [he x (by simp)]
  case call c =>
    obtain ⟨callee, ⟨args⟩, ⟨ats⟩⟩ := c
    cases callee <;> try rfl
    rename_i b
    simp only [Call.operands] at he
    have he' : ∀ y ∈ args, ev env y = ev env' y := fun y hy => he y (by simp [hy])
    simp only [builtinS]
    split <;> try rfl
    · rename_i x t; rw [he' x (by simp)]
    · rename_i x y; rw [he' x (by simp), he' y (by simp)]
    · rename_i x y; rw [he' x (by simp), he' y (by simp)]
    · rename_i s x t t'; rw [he' s (by simp), he' x (by simp)]

/-- A pure operation asks nothing of the heap. -/
theorem aop_pure {P : Program} {nid : Nat} {env : AEnv} {h h' : AHeap} {op : Op} {s : Prop} {x : AV} (hk : kindOf op = .pure) (ha : aop P nid env h op = some (s, x, h')) :
    h' = h ∧ ∀ nid2 h2, aop P nid2 env h2 op = some (s, x, h2) := by
  cases op <;> simp only [kindOf, reduceCtorEq] at hk <;> simp only [aop] at ha ⊢ <;> try (cases ha; done)
  case move x => injection ha with ha; injection ha with h1 ha; injection ha with h2 h3; subst h1; subst h2; exact ⟨h3.symm, fun _ _ => rfl⟩
  case assign x => injection ha with ha; injection ha with h1 ha; injection ha with h2 h3; subst h1; subst h2; exact ⟨h3.symm, fun _ _ => rfl⟩
  case call c =>
    obtain ⟨callee, ⟨args⟩, ⟨ats⟩⟩ := c
    cases callee <;> simp only [] at ha hk <;> try (first | cases ha | cases hk)
    rename_i b
    simp only [builtinS] at ha ⊢
    cases b <;> simp only [kindOf, reduceCtorEq] at hk
    all_goals
      split at ha <;> try (first | (cases ha; done) | (rename_i heq; cases heq; done) | (rename_i heq _; cases heq; done))
      split at ha <;> first
        | (cases ha; done)
        | (injection ha with ha; injection ha with h1 ha; injection ha with h2 h3; subst h1; subst h2; refine ⟨h3.symm, fun _ _ => ?_⟩; simp_all)
  all_goals
    repeat' (split at ha)
    all_goals first
      | (cases ha; done)
      | (injection ha with ha; injection ha with h1 ha; injection ha with h2 h3; subst h1; subst h2; refine ⟨h3.symm, fun _ _ => ?_⟩; simp_all)

theorem loadS_more {h h2 : AHeap} {y : TyF} {a x : AV} {s : Prop} (hm : ∀ id ck, h id = some ck → h2 id = some ck) (hl : loadS h y a = some (s, x)) : loadS h2 y a = some (s, x) := by
  unfold loadS at hl ⊢
  split at hl
  · split at hl
    · rename_i h1; simp only [hm _ _ h1]; exact hl
    · cases hl
  · split at hl
    · rename_i h1; simp only [hm _ _ h1]; exact hl
    · rename_i h1; simp only [hm _ _ h1]; exact hl
    · cases hl
  · exact hl
  · cases hl

theorem aop_read {P : Program} {nid : Nat} {env : AEnv} {h h' : AHeap} {op : Op} {s : Prop} {x : AV} (hk : kindOf op = .read) (ha : aop P nid env h op = some (s, x, h')) :
    h' = h ∧ ∀ nid2 h2, (∀ id ck, h id = some ck → h2 id = some ck) → aop P nid2 env h2 op = some (s, x, h2) := by
  cases op <;> simp only [kindOf, reduceCtorEq] at hk
  case load t a =>
    simp only [aop] at ha ⊢
    split at ha
    · rename_i y hy
      split at ha
      · rename_i s' r hl
        injection ha with ha; injection ha with h1 ha; injection ha with h2 h3; subst h1; subst h2
        refine ⟨h3.symm, fun nid2 h2 hm => ?_⟩
        simp only [loadS_more hm hl]
      · cases ha
    · cases ha
  case call c =>
    obtain ⟨callee, args, ats⟩ := c
    cases callee <;> try (simp only [kindOf, reduceCtorEq] at hk; done)
    rename_i b
    cases b <;> simp only [kindOf, reduceCtorEq] at hk

theorem aop_new {P : Program} {nid : Nat} {env : AEnv} {h h' : AHeap} {op : Op} {s : Prop} {x : AV} (hk : kindOf op = .new) (ha : aop P nid env h op = some (s, x, h')) :
    ∃ ck, h' = upd h nid (some ck) ∧ ∀ h2, aop P nid env h2 op = some (s, x, upd h2 nid (some ck)) := by
  cases op <;> simp only [kindOf, reduceCtorEq] at hk
  case call c =>
    obtain ⟨callee, args, ats⟩ := c
    cases callee <;> try (simp only [kindOf, reduceCtorEq] at hk; done)
    rename_i b
    cases b <;> simp only [kindOf, reduceCtorEq] at hk
  all_goals
    simp only [aop] at ha ⊢
    repeat' (split at ha)
    all_goals first
      | (cases ha; done)
      | (injection ha with ha; injection ha with h1 ha; injection ha with h2 h3; subst h1; subst h2; refine ⟨_, h3.symm, fun _ => ?_⟩; simp_all)

/-! ### One operation, as a step -/

def stepD (P : Program) (nid : Nat) (env : AEnv) (h : AHeap) (op : Op) (x : AV) (h' : AHeap) : Prop :=
  match op with
  | .call { callee := .value fo, args, .. } => ∃ f caps, calleeA env fo = some (f, caps) ∧ callable P f = true ∧ AFun P f (normL (args.toList.map (ev env) ++ caps)) x ∧ idsLtL 0 (normL (args.toList.map (ev env) ++ caps)) ∧ idsLt 0 x ∧ h' = h
  | .panic _ => False
  | op => (kindOf op = .new → h nid = none) ∧ ∃ s, aop P nid env h op = some (s, x, h') ∧ s

def TD (P : Program) (ds : List (Option Tmp)) (o : SOp) (nid : Nat) (K : AEnv → AHeap → Prop) (env : AEnv) (h : AHeap) : Prop :=
  match o.guard with
  | none => ∃ x h', stepD P nid env h o.op x h' ∧ K (putE env o.dst x) h'
  | some (j, want) => ∃ b, yld ds env j want = some b ∧ (b = want → ∃ x h', stepD P nid env h o.op x h' ∧ K (putE env o.dst x) h') ∧ (b ≠ want → K (putE env o.dst (.p (.sc (.tuple #[])))) h)

/-- Which slots an operation looks at. -/
def looks (ds : List (Option Tmp)) (o : SOp) : List Tmp := tmpsOf o.op ++ (match o.guard with | some (j, _) => (match ds[j]? with | some (some d) => [d] | _ => []) | none => [])

def slotsApart (ds : List (Option Tmp)) (x y : SOp) : Bool :=
  (match x.dst with
   | some d => !(looks ds y).contains d && y.dst != some d
   | none => true) &&
  (match y.dst with
   | some d => !(looks ds x).contains d
   | none => true)

/-- May y, which stands behind x in the text, be done ahead of it? -/
def mayPass (ds : List (Option Tmp)) (x y : SOp) : Bool :=
  slotsApart ds x y && (match kindOf x.op, kindOf y.op with
    | .pure, _ => true
    | _, .pure => true
    | .read, .read => true
    | .read, .new => true
    | .new, .new => true
    | _, _ => false)

theorem put_other {env : AEnv} {d : Option Tmp} {x : AV} {t : Tmp} (h : ∀ e, d = some e → e ≠ t) : putE env d x t = env t := by
  cases d with
  | none => rfl
  | some e => exact upd_other _ _ (Ne.symm (h e rfl))

theorem ev_put {env : AEnv} {d : Option Tmp} {x : AV} {y : Operand} (h : ∀ e, d = some e → y ≠ .tmp e) : ev (putE env d x) y = ev env y :=
  ev_congr fun t ht => put_other fun e he hh => h e he (by rw [ht, hh])

theorem step_put {P : Program} {nid : Nat} {env : AEnv} {h h' : AHeap} {op : Op} {x z : AV} {d : Option Tmp} (hd : ∀ e, d = some e → e ∉ tmpsOf op) : stepD P nid (putE env d z) h op x h' ↔ stepD P nid env h op x h' := by
  have he : ∀ y ∈ op.operands.toList, ev (putE env d z) y = ev env y := fun y hy => ev_put fun e hde hye => hd e hde (by
    unfold tmpsOf
    rw [List.mem_filterMap]
    exact ⟨y, hy, by rw [hye]⟩)
  unfold stepD
  split
  · rename_i fo args ats
    have h1 : calleeA (putE env d z) fo = calleeA env fo := by
      unfold calleeA
      rw [he fo (by simp [Op.operands, Call.operands])]
    have h2 : args.toList.map (ev (putE env d z)) = args.toList.map (ev env) := List.map_congr_left fun y hy => he y (by simp [Op.operands, Call.operands]; exact .inr (by simpa using hy))
    rw [h1, h2]
  · exact Iff.rfl
  · rw [aop_congr he]

theorem yld_put {ds : List (Option Tmp)} {env : AEnv} {j : Nat} {w : Bool} {z : AV} {d : Option Tmp} (hd : ∀ e, d = some e → ∀ t, ds[j]? = some (some t) → e ≠ t) : yld ds (putE env d z) j w = yld ds env j w := by
  unfold yld
  split
  · rename_i t ht
    rw [put_other fun e he => hd e he t ht]
  · rfl

theorem put_comm {env : AEnv} {d e : Option Tmp} {x y : AV} (h : ∀ a, d = some a → e ≠ some a) : putE (putE env d x) e y = putE (putE env e y) d x := by
  cases d with
  | none => rfl
  | some a =>
    cases e with
    | none => rfl
    | some b =>
      have : b ≠ a := fun hh => h a rfl (by rw [hh])
      exact upd_comm _ _ _ this

/-- The heart: two steps change places. -/
theorem step_swap {P : Program} {n1 n2 : Nat} {env : AEnv} {h h1 h2 : AHeap} {o1 o2 : Op} {x y : AV} (hn : n1 ≠ n2)
    (hk : (match kindOf o1, kindOf o2 with | .pure, _ => true | _, .pure => true | .read, .read => true | .read, .new => true | .new, .new => true | _, _ => false) = true)
    (s1 : stepD P n1 env h o1 x h1) (s2 : stepD P n2 env h1 o2 y h2) : ∃ h3, stepD P n2 env h o2 y h3 ∧ stepD P n1 env h3 o1 x h2 := by
  have pureS : ∀ {n : Nat} {g g' : AHeap} {op : Op} {z : AV}, kindOf op = .pure → stepD P n env g op z g' → g' = g ∧ ∀ g2, stepD P n env g2 op z g2 := by
    intro n g g' op z hp hs
    unfold stepD at hs ⊢
    split at hs
    · obtain ⟨f, caps, q1, q2, q3, q4, q5, q6⟩ := hs
      exact ⟨q6, fun g2 => ⟨f, caps, q1, q2, q3, q4, q5, rfl⟩⟩
    · exact hs.elim
    · obtain ⟨_, s, q1, q2⟩ := hs
      obtain ⟨e, hh⟩ := aop_pure hp q1
      refine ⟨e, fun g2 => ?_⟩
      exact ⟨fun h => by (rw [hp] at h; cases h), s, hh n g2, q2⟩
  have plain : ∀ {n : Nat} {g g' : AHeap} {op : Op} {z : AV}, (kindOf op = .read ∨ kindOf op = .new) → (stepD P n env g op z g' ↔ ((kindOf op = .new → g n = none) ∧ ∃ s, aop P n env g op = some (s, z, g') ∧ s)) := by
    intro n g g' op z hp
    unfold stepD
    split
    · simp [kindOf] at hp
    · simp [kindOf] at hp
    · exact Iff.rfl
  by_cases p1 : kindOf o1 = .pure
  · obtain ⟨e, hh⟩ := pureS p1 s1
    subst e
    exact ⟨h2, s2, hh h2⟩
  by_cases p2 : kindOf o2 = .pure
  · obtain ⟨e, hh⟩ := pureS p2 s2
    subst e
    exact ⟨h, hh h, s1⟩
  have cases1 : (kindOf o1 = .read ∨ kindOf o1 = .new) ∧ (kindOf o2 = .read ∨ kindOf o2 = .new) ∧ (kindOf o1 = .new → kindOf o2 = .new) := by
    cases k1 : kindOf o1 <;> cases k2 : kindOf o2 <;> simp_all
  obtain ⟨c1, c2, c3⟩ := cases1
  rw [plain c1] at s1
  rw [plain c2] at s2
  obtain ⟨f1, a1, q1, t1⟩ := s1
  obtain ⟨f2, a2, q2, t2⟩ := s2
  rcases c1 with c1 | c1
  · obtain ⟨e, hh⟩ := aop_read c1 q1
    subst e
    rcases c2 with c2 | c2
    · obtain ⟨e, hh2⟩ := aop_read c2 q2
      subst e
      exact ⟨_, (plain (.inl c2)).2 ⟨f2, a2, q2, t2⟩, (plain (.inl c1)).2 ⟨f1, a1, q1, t1⟩⟩
    · obtain ⟨ck, e, hh2⟩ := aop_new c2 q2
      subst e
      have hfree := f2 c2
      refine ⟨_, (plain (.inr c2)).2 ⟨f2, a2, q2, t2⟩, (plain (.inl c1)).2 ⟨fun hh => by (rw [c1] at hh; cases hh), a1, hh n1 _ (fun id ck' hid => ?_), t1⟩⟩
      rw [upd_other _ _ (fun e => by subst e; rw [hfree] at hid; cases hid)]
      exact hid
  · have c2 := c3 c1
    obtain ⟨ck1, e1, hh1⟩ := aop_new c1 q1
    obtain ⟨ck2, e2, hh2⟩ := aop_new c2 q2
    subst e1; subst e2
    have g1 := f1 c1
    have g2 := f2 c2
    rw [upd_other _ _ (Ne.symm hn)] at g2
    refine ⟨upd h n2 (some ck2), (plain (.inr c2)).2 ⟨fun _ => g2, a2, hh2 h, t2⟩, (plain (.inr c1)).2 ⟨fun _ => by (rw [upd_other _ _ hn]; exact g1), a1, ?_, t1⟩⟩
    rw [hh1 (upd h n2 (some ck2)), upd_comm _ _ _ (Ne.symm hn)]

theorem looks_mem {ds : List (Option Tmp)} {o : SOp} {d : Tmp} (h : (looks ds o).contains d = false) : d ∉ tmpsOf o.op ∧ ∀ j w, o.guard = some (j, w) → ∀ t, ds[j]? = some (some t) → d ≠ t := by
  have hd : d ∉ looks ds o := by simpa using h
  unfold looks at hd
  rw [List.mem_append] at hd
  refine ⟨fun e => hd (.inl e), fun j w hg t ht e => hd (.inr ?_)⟩
  rw [hg]
  simp [ht, e]

theorem TD_swap {P : Program} {ds : List (Option Tmp)} {x y : SOp} {n1 n2 : Nat} {K : AEnv → AHeap → Prop} (hn : n1 ≠ n2) (hp : mayPass ds x y = true) {env : AEnv} {h : AHeap} (ht : TD P ds x n1 (TD P ds y n2 K) env h) :
    TD P ds y n2 (TD P ds x n1 K) env h := by
  simp only [mayPass, slotsApart, Bool.and_eq_true] at hp
  obtain ⟨⟨ha, hb⟩, hk⟩ := hp
  have hx : ∀ d, x.dst = some d → d ∉ tmpsOf y.op ∧ (∀ j w, y.guard = some (j, w) → ∀ t, ds[j]? = some (some t) → d ≠ t) ∧ y.dst ≠ some d := by
    intro d hd
    rw [hd] at ha
    simp only [Bool.and_eq_true, Bool.not_eq_true', bne_iff_ne, ne_eq] at ha
    obtain ⟨q1, q2⟩ := looks_mem ha.1
    exact ⟨q1, q2, ha.2⟩
  have hy : ∀ d, y.dst = some d → d ∉ tmpsOf x.op ∧ ∀ j w, x.guard = some (j, w) → ∀ t, ds[j]? = some (some t) → d ≠ t := by
    intro d hd
    rw [hd] at hb
    simp only [Bool.not_eq_true'] at hb
    exact looks_mem hb
  have comm : ∀ u v, putE (putE env x.dst u) y.dst v = putE (putE env y.dst v) x.dst u := fun u v => put_comm fun a ha => (hx a ha).2.2
  have yx : ∀ u g z g', stepD P n2 (putE env x.dst u) g y.op z g' ↔ stepD P n2 env g y.op z g' := fun u g z g' => step_put fun e he => (hx e he).1
  have xy : ∀ u g z g', stepD P n1 (putE env y.dst u) g x.op z g' ↔ stepD P n1 env g x.op z g' := fun u g z g' => step_put fun e he => (hy e he).1
  -- what each way through x leaves for y
  have gy : ∀ u j w, y.guard = some (j, w) → yld ds (putE env x.dst u) j w = yld ds env j w := fun u j w hg => yld_put fun e he t ht => (hx e he).2.1 j w hg t ht
  have gx : ∀ u j w, x.guard = some (j, w) → yld ds (putE env y.dst u) j w = yld ds env j w := fun u j w hg => yld_put fun e he t ht => (hy e he).2 j w hg t ht
  -- the four ways, as plain pieces
  have exexe : ∀ {g : AHeap} {u : AV} {g1 : AHeap} {v : AV} {g2 : AHeap}, stepD P n1 env g x.op u g1 → stepD P n2 env g1 y.op v g2 → K (putE (putE env x.dst u) y.dst v) g2 →
      ∃ g3, stepD P n2 env g y.op v g3 ∧ stepD P n1 env g3 x.op u g2 ∧ K (putE (putE env y.dst v) x.dst u) g2 := by
    intro g u g1 v g2 s1 s2 hK
    obtain ⟨g3, q1, q2⟩ := step_swap hn hk s1 s2
    exact ⟨g3, q1, q2, by rw [← comm]; exact hK⟩
  unfold TD at ht ⊢
  cases hgx : x.guard with
  | none =>
    rw [hgx] at ht
    simp only [] at ht ⊢
    obtain ⟨u, g1, s1, ht⟩ := ht
    cases hgy : y.guard with
    | none =>
      rw [hgy] at ht
      simp only [] at ht ⊢
      obtain ⟨v, g2, s2, hK⟩ := ht
      obtain ⟨g3, q1, q2, q3⟩ := exexe s1 ((yx _ _ _ _).1 s2) hK
      exact ⟨v, g3, q1, u, g2, (xy _ _ _ _).2 q2, q3⟩
    | some jw =>
      obtain ⟨j, w⟩ := jw
      rw [hgy] at ht
      simp only [] at ht ⊢
      obtain ⟨b, hb, t1, t2⟩ := ht
      rw [gy u j w hgy] at hb
      refine ⟨b, hb, fun e => ?_, fun e => ?_⟩
      · obtain ⟨v, g2, s2, hK⟩ := t1 e
        obtain ⟨g3, q1, q2, q3⟩ := exexe s1 ((yx _ _ _ _).1 s2) hK
        exact ⟨v, g3, q1, u, g2, (xy _ _ _ _).2 q2, q3⟩
      · exact ⟨u, g1, (xy _ _ _ _).2 s1, by rw [← comm]; exact t2 e⟩
  | some jw =>
    obtain ⟨j1, w1⟩ := jw
    rw [hgx] at ht
    simp only [] at ht
    obtain ⟨b1, hb1, t1, t2⟩ := ht
    cases hgy : y.guard with
    | none =>
      rw [hgy] at t1 t2
      simp only [] at t1 t2 ⊢
      by_cases e : b1 = w1
      · obtain ⟨u, g1, s1, v, g2, s2, hK⟩ := t1 e
        obtain ⟨g3, q1, q2, q3⟩ := exexe s1 ((yx _ _ _ _).1 s2) hK
        exact ⟨v, g3, q1, b1, by rw [gx v j1 w1 hgx]; exact hb1, fun _ => ⟨u, g2, (xy _ _ _ _).2 q2, q3⟩, fun h => absurd e h⟩
      · obtain ⟨v, g2, s2, hK⟩ := t2 e
        exact ⟨v, g2, (yx _ _ _ _).1 s2, b1, by rw [gx v j1 w1 hgx]; exact hb1, fun h => absurd h e, fun _ => by rw [← comm]; exact hK⟩
    | some jw2 =>
      obtain ⟨j2, w2⟩ := jw2
      rw [hgy] at t1 t2
      simp only [] at t1 t2 ⊢
      by_cases e : b1 = w1
      · obtain ⟨u, g1, s1, b2, hb2, r1, r2⟩ := t1 e
        rw [gy u j2 w2 hgy] at hb2
        refine ⟨b2, hb2, fun e2 => ?_, fun e2 => ?_⟩
        · obtain ⟨v, g2, s2, hK⟩ := r1 e2
          obtain ⟨g3, q1, q2, q3⟩ := exexe s1 ((yx _ _ _ _).1 s2) hK
          exact ⟨v, g3, q1, b1, by rw [gx v j1 w1 hgx]; exact hb1, fun _ => ⟨u, g2, (xy _ _ _ _).2 q2, q3⟩, fun h => absurd e h⟩
        · exact ⟨b1, by rw [gx _ j1 w1 hgx]; exact hb1, fun _ => ⟨u, g1, (xy _ _ _ _).2 s1, by rw [← comm]; exact r2 e2⟩, fun h => absurd e h⟩
      · obtain ⟨b2, hb2, r1, r2⟩ := t2 e
        rw [gy _ j2 w2 hgy] at hb2
        refine ⟨b2, hb2, fun e2 => ?_, fun e2 => ?_⟩
        · obtain ⟨v, g2, s2, hK⟩ := r1 e2
          exact ⟨v, g2, (yx _ _ _ _).1 s2, b1, by rw [gx v j1 w1 hgx]; exact hb1, fun h => absurd h e, fun _ => by rw [← comm]; exact hK⟩
        · exact ⟨b1, by rw [gx _ j1 w1 hgx]; exact hb1, fun h => absurd h e, fun _ => by rw [← comm]; exact r2 e2⟩

end Go.Ab

set_option linter.unusedVariables false
set_option linter.unusedSimpArgs false
namespace Go.Ab
open Go

/-! ### The static check, by numbers as sets -/

def bits (l : List Nat) : Nat := l.foldl (fun s t => s ||| 1 <<< t) 0

theorem bits_acc (t : Nat) : ∀ (l : List Nat) (s : Nat), (l.foldl (fun s t => s ||| 1 <<< t) s).testBit t = (s.testBit t || l.contains t)
  | [], s => by simp
  | x :: l, s => by
    rw [List.foldl_cons, bits_acc t l, Nat.testBit_or, Nat.one_shiftLeft, Nat.testBit_two_pow, List.contains_cons]
    by_cases e : x = t
    · subst e; simp
    · have : (t == x) = false := by simpa using fun h => e h.symm
      simp [e, this]

theorem bits_mem (l : List Nat) (t : Nat) : (bits l).testBit t = l.contains t := by
  unfold bits
  rw [bits_acc]
  simp

theorem and_zero {a b t : Nat} (h : a &&& b = 0) (ha : a.testBit t = true) : b.testBit t = false := by
  have : (a &&& b).testBit t = false := by rw [h]; simp
  rw [Nat.testBit_and, ha] at this
  simpa using this

structure Info where
  dst : Nat
  looks : Nat
  kind : OK

def infoOf (ds : List (Option Tmp)) (o : Oper) : Info :=
  ⟨bits (match o.dst with | some d => [d] | none => []), bits (looks ds ⟨o.dst, o.op, o.guard⟩), kindOf o.op⟩

def kindsPass : OK → OK → Bool
  | .pure, _ => true
  | _, .pure => true
  | .read, .read => true
  | .read, .new => true
  | .new, .new => true
  | _, _ => false

def passI (x y : Info) : Bool := (x.dst &&& (y.looks ||| y.dst)) == 0 && (y.dst &&& x.looks) == 0 && kindsPass x.kind y.kind

theorem passI_mayPass {ds : List (Option Tmp)} {x y : Oper} (h : passI (infoOf ds x) (infoOf ds y) = true) : mayPass ds ⟨x.dst, x.op, x.guard⟩ ⟨y.dst, y.op, y.guard⟩ = true := by
  simp only [passI, Bool.and_eq_true, beq_iff_eq, infoOf] at h
  obtain ⟨⟨h1, h2⟩, h3⟩ := h
  simp only [mayPass, slotsApart, Bool.and_eq_true]
  refine ⟨⟨?_, ?_⟩, ?_⟩
  · cases hd : x.dst with
    | none => rfl
    | some d =>
      rw [hd] at h1
      have := and_zero h1 (t := d) (by rw [bits_mem]; simp)
      rw [Nat.testBit_or, bits_mem, bits_mem] at this
      simp only [Bool.or_eq_false_iff] at this
      simp only [Bool.and_eq_true, Bool.not_eq_true', bne_iff_ne, ne_eq]
      refine ⟨this.1, ?_⟩
      intro e
      rw [e] at this
      simp at this
  · cases hd : y.dst with
    | none => rfl
    | some d =>
      rw [hd] at h2
      have := and_zero h2 (t := d) (by rw [bits_mem]; simp)
      rw [bits_mem] at this
      simp only [Bool.not_eq_true']
      exact this
  · revert h3
    cases kindOf x.op <;> cases kindOf y.op <;> intro h <;> first | rfl | exact h

def backs (o : Oper) : List Nat := (o.after.toList.filter fun e => Region.binds .any e).map (·.on)

def upSet (D : List Nat) (l : List Nat) : Nat := l.foldl (fun s j => s ||| (1 <<< j ||| D.getD j 0)) 0

theorem upSet_acc (D : List Nat) (t : Nat) : ∀ (l : List Nat) (s : Nat), (l.foldl (fun s j => s ||| (1 <<< j ||| D.getD j 0)) s).testBit t = true → s.testBit t = true ∨ ∃ e ∈ l, e = t ∨ (D.getD e 0).testBit t = true
  | [], s, h => .inl h
  | x :: l, s, h => by
    rw [List.foldl_cons] at h
    rcases upSet_acc D t l _ h with h | ⟨e, he, h⟩
    · rw [Nat.testBit_or, Nat.testBit_or, Nat.one_shiftLeft, Nat.testBit_two_pow] at h
      simp only [Bool.or_eq_true, decide_eq_true_eq] at h
      rcases h with h | h | h
      · exact .inl h
      · exact .inr ⟨x, by simp, .inl h⟩
      · exact .inr ⟨x, by simp, .inr h⟩
    · exact .inr ⟨e, by simp [he], h⟩

def ancs : List Oper → List Nat → List Nat
  | [], acc => acc
  | o :: l, acc => ancs l (acc ++ [upSet acc (backs o)])

def inner (D i : Nat) (y : Info) : Nat → List Info → Bool
  | _, [] => true
  | j, x :: l => (Nat.ble i j || D.testBit j || passI x y) && inner D i y (j + 1) l

theorem inner_at {D i : Nat} {y : Info} : ∀ {l : List Info} {j : Nat}, inner D i y j l = true → ∀ k x, l[k]? = some x → j + k < i → D.testBit (j + k) = true ∨ passI x y = true
  | [], j, h, k, x, hk, _ => by simp at hk
  | z :: l, j, h, 0, x, hk, hlt => by
    simp only [inner, Bool.and_eq_true, Bool.or_eq_true] at h
    simp at hk
    subst hk
    rcases h.1 with (h | h) | h
    · rw [Nat.ble_eq] at h; omega
    · exact .inl h
    · exact .inr h
  | z :: l, j, h, k + 1, x, hk, hlt => by
    simp only [inner, Bool.and_eq_true] at h
    have := inner_at h.2 k x (by simpa using hk) (by omega)
    rw [show j + 1 + k = j + (k + 1) by omega] at this
    exact this

def drawAt (infos : List Info) (D : List Nat) (i : Nat) (o : Oper) (y : Info) : Bool :=
  (backs o).all (fun j => Nat.blt j i) && Nat.beq (D.getD i 0) (upSet D (backs o)) && inner (D.getD i 0) i y 0 infos

def drawAll (infos : List Info) (D : List Nat) : Nat → List Oper → List Info → Bool
  | i, o :: l, y :: ys => drawAt infos D i o y && drawAll infos D (i + 1) l ys
  | _, _, _ => true

def drawOK (ops : List Oper) (D : List Nat) : Bool := drawAll (ops.map (infoOf (ops.map (·.dst)))) D 0 ops (ops.map (infoOf (ops.map (·.dst))))

theorem drawAll_at {infos : List Info} {D : List Nat} : ∀ {l : List Oper} {ys : List Info} {i : Nat}, drawAll infos D i l ys = true → ∀ k o y, l[k]? = some o → ys[k]? = some y → drawAt infos D (i + k) o y = true
  | [], ys, i, h, k, o, y, hk, _ => by simp at hk
  | x :: l, [], i, h, k, o, y, _, hy => by simp at hy
  | x :: l, z :: ys, i, h, 0, o, y, hk, hy => by
    simp only [drawAll, Bool.and_eq_true] at h
    simp at hk hy
    subst hk; subst hy
    exact h.1
  | x :: l, z :: ys, i, h, k + 1, o, y, hk, hy => by
    simp only [drawAll, Bool.and_eq_true] at h
    have := drawAll_at h.2 k o y (by simpa using hk) (by simpa using hy)
    rw [show i + 1 + k = i + (k + 1) by omega] at this
    exact this

structure DrawFacts (ops : Array Oper) (D : Nat → Nat → Prop) : Prop where
  back : ∀ i o, ops[i]? = some o → ∀ j ∈ backs o, j < i
  anc : ∀ i o, ops[i]? = some o → ∀ j, D i j → ∃ e ∈ backs o, e = j ∨ D e j
  pass : ∀ i o j x, ops[i]? = some o → j < i → ops[j]? = some x → D i j ∨ mayPass (ops.toList.map (·.dst)) ⟨x.dst, x.op, x.guard⟩ ⟨o.dst, o.op, o.guard⟩ = true

theorem drawOK_facts {ops : Array Oper} {D : List Nat} (h : drawOK ops.toList D = true) : DrawFacts ops (fun i j => (D.getD i 0).testBit j = true) := by
  unfold drawOK at h
  have key : ∀ i o, ops[i]? = some o → drawAt (ops.toList.map (infoOf (ops.toList.map (·.dst)))) D i o (infoOf (ops.toList.map (·.dst)) o) = true := fun i o ho => by
    have := drawAll_at h i o (infoOf (ops.toList.map (·.dst)) o) (by simpa using ho) (by simp [ho])
    rw [Nat.zero_add] at this
    exact this
  refine ⟨fun i o ho j hj => ?_, fun i o ho j hj => ?_, fun i o j x ho hji hx => ?_⟩
  · have := key i o ho
    simp only [drawAt, Bool.and_eq_true] at this
    have := List.all_eq_true.1 this.1.1 j hj
    simpa [Nat.blt_eq] using this
  · have := key i o ho
    simp only [drawAt, Bool.and_eq_true] at this
    have h2 := Nat.eq_of_beq_eq_true this.1.2
    rw [h2] at hj
    unfold upSet at hj
    rcases upSet_acc D j (backs o) 0 hj with h | h
    · simp at h
    · exact h
  · have := key i o ho
    simp only [drawAt, Bool.and_eq_true] at this
    have := inner_at this.2 j (infoOf (ops.toList.map (·.dst)) x) (by simp [hx]) (by omega)
    rw [Nat.zero_add] at this
    rcases this with h | h
    · exact .inl h
    · exact .inr (passI_mayPass h)

/-! ### The text's order -/

def contD (P : Program) (D : Nat → List SOp → AEnv → AHeap → Prop) (nid : Nat) (r : Option (Prop × AV × AHeap)) (dst : Option Tmp) (l : List SOp) (env : AEnv) : Prop :=
  match r with
  | some (s, x, h') => s ∧ D (nid + 1) l (putE env dst x) h'
  | none => False

/-- One call that tells one thing. -/
def callD (P : Program) (env : AEnv) (fo : Operand) (args : List AV) (K : AV → Prop) : Prop :=
  match calleeA env fo with
  | some (f, caps) => callable P f = true ∧ ∃ x, AFun P f (normL (args ++ caps)) x ∧ idsLtL 0 (normL (args ++ caps)) ∧ idsLt 0 x ∧ K x
  | none => False

def execD (P : Program) (nid : Nat) (env : AEnv) (h : AHeap) (op : Op) (K : AV → AHeap → Prop) : Prop :=
  match op with
  | .call { callee := .value fo, args, .. } => callD P env fo (args.toList.map (ev env)) (fun x => K x h)
  | .panic _ => False
  | op => match aop P nid env h op with
    | some (s, x, h') => s ∧ K x h'
    | none => False

def regD (P : Program) (ds : List (Option Tmp)) (K : AEnv → AHeap → Prop) : Nat → List SOp → AEnv → AHeap → Prop
  | _, [], env, h => K env h
  | nid, o :: l, env, h => match o.guard with
    | none => execD P nid env h o.op (fun x h' => regD P ds K (nid + 1) l (putE env o.dst x) h')
    | some (j, want) => match yld ds env j want with
      | some b => (b = want → execD P nid env h o.op (fun x h' => regD P ds K (nid + 1) l (putE env o.dst x) h')) ∧
          (b ≠ want → regD P ds K (nid + 1) l (putE env o.dst (.p (.sc (.tuple #[])))) h)
      | none => False

/-- The same, with the freshness of each number told. -/
def TDs (P : Program) (ds : List (Option Tmp)) (K : AEnv → AHeap → Prop) : List (Nat × SOp) → AEnv → AHeap → Prop
  | [], env, h => K env h
  | (n, o) :: l, env, h => TD P ds o n (TDs P ds K l) env h

theorem TD_mono {P : Program} {ds : List (Option Tmp)} {o : SOp} {n : Nat} {K K' : AEnv → AHeap → Prop} (hk : ∀ env h, K env h → K' env h) {env : AEnv} {h : AHeap} (ht : TD P ds o n K env h) : TD P ds o n K' env h := by
  unfold TD at ht ⊢
  cases hg : o.guard with
  | none =>
    rw [hg] at ht
    obtain ⟨x, h', a, b⟩ := ht
    exact ⟨x, h', a, hk _ _ b⟩
  | some jw =>
    obtain ⟨j, w⟩ := jw
    rw [hg] at ht
    obtain ⟨b, hb, t1, t2⟩ := ht
    exact ⟨b, hb, fun e => by obtain ⟨x, h', a, b⟩ := t1 e; exact ⟨x, h', a, hk _ _ b⟩, fun e => hk _ _ (t2 e)⟩

theorem TDs_pull {P : Program} {ds : List (Option Tmp)} {K : AEnv → AHeap → Prop} {n : Nat} {y : SOp} {post : List (Nat × SOp)} : ∀ (pre : List (Nat × SOp)), (∀ q ∈ pre, q.1 ≠ n ∧ mayPass ds q.2 y = true) → ∀ {env : AEnv} {h : AHeap},
    TDs P ds K (pre ++ (n, y) :: post) env h → TD P ds y n (TDs P ds K (pre ++ post)) env h
  | [], _, env, h, ht => ht
  | (n1, x) :: pre, hp, env, h, ht => by
    have h1 := hp (n1, x) (by simp)
    refine TD_swap h1.1 h1.2 ?_
    exact TD_mono (fun env h hh => TDs_pull pre (fun q hq => hp q (by simp [hq])) hh) ht

end Go.Ab

set_option linter.unusedVariables false
set_option linter.unusedSimpArgs false
namespace Go.Ab
open Go

/-! ### What is still to be done -/

def remL (nb : Nat) (lst : Nat → Bool) : Nat → List SOp → List (Nat × SOp)
  | _, [] => []
  | k, o :: l => if lst k = true then remL nb lst (k + 1) l else (nb + k, o) :: remL nb lst (k + 1) l

theorem remL_nil {nb : Nat} {lst : Nat → Bool} : ∀ {l : List SOp} {k : Nat}, (∀ j, lst j = true) → remL nb lst k l = []
  | [], _, _ => rfl
  | o :: l, k, h => by rw [remL, if_pos (h k)]; exact remL_nil h

theorem remL_done {nb : Nat} {lst : Nat → Bool} : ∀ {l : List SOp} {k : Nat}, remL nb lst k l = [] → ∀ j, k ≤ j → j < k + l.length → lst j = true
  | [], k, _, j, h1, h2 => by simp at h2; omega
  | o :: l, k, h, j, h1, h2 => by
    rw [remL] at h
    split at h
    · rename_i hk
      by_cases e : j = k
      · rw [e]; exact hk
      · exact remL_done h j (by omega) (by simp at h2; omega)
    · cases h

theorem remL_congr {nb : Nat} {lst lst' : Nat → Bool} : ∀ {l : List SOp} {k : Nat}, (∀ j, k ≤ j → lst j = lst' j) → remL nb lst k l = remL nb lst' k l
  | [], _, _ => rfl
  | o :: l, k, h => by rw [remL, remL, h k (Nat.le_refl _), remL_congr (fun j hj => h j (by omega))]

theorem remL_split {nb : Nat} {lst lst' : Nat → Bool} {i : Nat} (hi : lst i = false) (hi' : lst' i = true) (ho : ∀ j, j ≠ i → lst' j = lst j) : ∀ {l : List SOp} {k : Nat} {o : SOp}, k ≤ i → l[i - k]? = some o →
    ∃ pre post, remL nb lst k l = pre ++ (nb + i, o) :: post ∧ remL nb lst' k l = pre ++ post ∧ ∀ q ∈ pre, ∃ j x, k ≤ j ∧ j < i ∧ q = (nb + j, x) ∧ lst j = false ∧ l[j - k]? = some x
  | [], k, o, h, hl => by simp at hl
  | y :: l, k, o, h, hl => by
    by_cases e : i = k
    · subst e
      rw [Nat.sub_self] at hl
      simp at hl
      subst hl
      refine ⟨[], remL nb lst (i + 1) l, by rw [remL, if_neg (by simp [hi])]; rfl, ?_, fun q hq => by simp at hq⟩
      rw [remL, if_pos hi']
      exact remL_congr fun j hj => ho j (by omega)
    · have hl2 : l[i - (k + 1)]? = some o := by
        rw [show i - k = (i - (k + 1)) + 1 by omega] at hl
        simpa using hl
      obtain ⟨pre, post, h1, h2, h3⟩ := remL_split hi hi' ho (l := l) (k := k + 1) (by omega) hl2
      have lift : ∀ q ∈ pre, ∃ j x, k ≤ j ∧ j < i ∧ q = (nb + j, x) ∧ lst j = false ∧ (y :: l)[j - k]? = some x := fun q hq => by
        obtain ⟨j, x, q1, q2, q3, q4, q5⟩ := h3 q hq
        exact ⟨j, x, by omega, q2, q3, q4, by rw [show j - k = (j - (k + 1)) + 1 by omega]; simpa using q5⟩
      have hk : lst' k = lst k := ho k (by omega)
      by_cases hlk : lst k = true
      · exact ⟨pre, post, by rw [remL, if_pos hlk, h1], by rw [remL, if_pos (by rw [hk]; exact hlk), h2], lift⟩
      · refine ⟨(nb + k, y) :: pre, post, by rw [remL, if_neg hlk, h1]; rfl, by rw [remL, if_neg (by rw [hk]; exact hlk), h2]; rfl, fun q hq => ?_⟩
        rcases List.mem_cons.1 hq with e2 | hq
        · exact ⟨k, y, Nat.le_refl _, by omega, e2, by simpa using hlk, by simp⟩
        · exact lift q hq

theorem remL_len {nb : Nat} {lst : Nat → Bool} : ∀ {l : List SOp} {k : Nat}, (remL nb lst k l).length ≤ l.length
  | [], _ => Nat.le_refl _
  | o :: l, k => by
    rw [remL]
    split
    · have := remL_len (nb := nb) (lst := lst) (l := l) (k := k + 1); simp; omega
    · have := remL_len (nb := nb) (lst := lst) (l := l) (k := k + 1); simp; omega

/-! ### From the text's order -/

theorem storeS_fresh {h h' : AHeap} {y : TyF} {a v : AV} {s : Prop} (hs : storeS h y a v = some (s, h')) {id : Nat} (hid : h id = none) : h' id = none := by
  unfold storeS at hs
  repeat' (split at hs)
  all_goals first
    | (cases hs; done)
    | (injection hs with hs; injection hs with h1 h2; subst h2
       rename_i hh _ _ _
       rw [upd_other]
       · exact hid
       · intro e; subst e; simp_all)
    | (injection hs with hs; injection hs with h1 h2; subst h2
       rw [upd_other]
       · exact hid
       · intro e; subst e; simp_all)

theorem aop_fresh {P : Program} {nid : Nat} {env : AEnv} {h h' : AHeap} {op : Op} {s : Prop} {x : AV} (ha : aop P nid env h op = some (s, x, h')) {id : Nat} (hne : id ≠ nid) (hid : h id = none) : h' id = none := by
  cases hk : kindOf op with
  | pure => rw [(aop_pure hk ha).1]; exact hid
  | read => rw [(aop_read hk ha).1]; exact hid
  | new =>
    obtain ⟨ck, e, _⟩ := aop_new hk ha
    rw [e, upd_other _ _ hne]
    exact hid
  | other =>
    cases op <;> simp only [kindOf, reduceCtorEq] at hk <;> simp only [aop] at ha <;> try (cases ha; done)
    case store t a v =>
      split at ha
      · split at ha
        · rename_i s' h2 hs
          injection ha with ha; injection ha with h1 ha; injection ha with h3 h4; subst h4
          exact storeS_fresh hs hid
        · cases ha
      · cases ha
    case call c =>
      obtain ⟨callee, args, ats⟩ := c
      cases callee <;> simp only [] at ha <;> try (cases ha; done)
      rename_i b
      cases b <;> simp only [kindOf, reduceCtorEq] at hk <;> simp only [builtinS] at ha
      all_goals
        repeat' (split at ha)
        all_goals first
          | (cases ha; done)
          | (rename_i heq; cases heq; done)
          | (injection ha with ha; injection ha with h1 ha; injection ha with h3 h4; subst h4
             first
               | exact hid
               | (rw [upd_other _ _ hne]; exact hid)
               | (rw [upd_other _ _ hne]; unfold upd; split <;> first | rfl | exact hid))

theorem execD_step {P : Program} {nid : Nat} {env : AEnv} {h : AHeap} {op : Op} {K : AV → AHeap → Prop} (hf : ∀ id, nid ≤ id → h id = none) (hx : execD P nid env h op K) :
    ∃ x h', stepD P nid env h op x h' ∧ K x h' ∧ ∀ id, nid + 1 ≤ id → h' id = none := by
  unfold execD at hx
  split at hx
  · rename_i fo args ats
    unfold callD at hx
    split at hx
    · rename_i f caps hc
      obtain ⟨h1, x, h2, h3, h4, h5⟩ := hx
      exact ⟨x, h, ⟨f, caps, hc, h1, h2, h3, h4, rfl⟩, h5, fun id hid => hf id (by omega)⟩
    · exact hx.elim
  · exact hx.elim
  · split at hx
    · rename_i h1 h2 _ s x h' ha
      refine ⟨x, h', ?_, hx.2, fun id hid => aop_fresh ha (by omega) (hf id (by omega))⟩
      unfold stepD
      split
      · exact absurd rfl (h1 _ _ _)
      · exact absurd rfl (h2 _)
      · exact ⟨fun _ => hf nid (Nat.le_refl _), s, ha, hx.1⟩
    · exact hx.elim

theorem regD_TDs {P : Program} {ds : List (Option Tmp)} {K : AEnv → AHeap → Prop} {nb : Nat} : ∀ {l : List SOp} {k : Nat} {env : AEnv} {h : AHeap}, (∀ id, nb + k ≤ id → h id = none) → regD P ds K (nb + k) l env h → TDs P ds K (remL nb (fun _ => false) k l) env h
  | [], k, env, h, _, hr => hr
  | o :: l, k, env, h, hf, hr => by
    rw [remL, if_neg (by simp)]
    simp only [TDs, TD]
    simp only [regD] at hr
    have go : execD P (nb + k) env h o.op (fun x h' => regD P ds K (nb + k + 1) l (putE env o.dst x) h') → ∃ x h', stepD P (nb + k) env h o.op x h' ∧ TDs P ds K (remL nb (fun _ => false) (k + 1) l) (putE env o.dst x) h' := by
      intro hx
      obtain ⟨x, h', h1, h2, h3⟩ := execD_step hf hx
      exact ⟨x, h', h1, regD_TDs (k := k + 1) (fun id hid => h3 id (by omega)) h2⟩
    split
    · rename_i hg
      rw [hg] at hr
      exact go hr
    · rename_i j want hg
      rw [hg] at hr
      simp only [] at hr
      split at hr
      · rename_i b hb
        exact ⟨b, hb, fun e => go (hr.1 e), fun e => regD_TDs (k := k + 1) (fun id hid => hf id (by omega)) (hr.2 e)⟩
      · exact hr.elim

theorem stepD_exec1 {P : Program} {n : Nat} {env : AEnv} {h h' : AHeap} {op : Op} {x : AV} (hn : h n = none) (hs : stepD P n env h op x h') : exec1 P n env h op (fun y g => y = x ∧ g = h') (fun _ => False) := by
  unfold stepD at hs
  unfold exec1
  split at hs
  · rename_i fo args ats
    obtain ⟨f, caps, h1, h2, h3, h4, h5, h6⟩ := hs
    simp only [h1]
    exact CallK.fn h3 h2 rfl h4 h5 hn ⟨rfl, h6.symm⟩
  · exact hs.elim
  · rename_i h1 h2
    split
    · exact absurd rfl (h1 _ _ _)
    · exact absurd rfl (h2 _)
    · obtain ⟨_, s, ha, hs⟩ := hs
      rw [ha]
      exact ⟨hs, rfl, rfl⟩

/-! ### The simulation -/

structure SimD (nt nb n : Nat) (E : Env) (env : AEnv) (h : AHeap) (lst : Nat → Bool) (a : Act) (w : World) : Prop where
  ok : WOK E h w
  env : ∀ k, Rep E (env k) (a.tmps.getD k undef)
  fresh : ∀ id, nb + n ≤ id → E.ch id = .unborn
  free : ∀ j, j < n → lst j = false → E.ch (nb + j) = .unborn
  size : a.tmps.size = nt
  defers : a.defers = []

theorem getD_both {listed : Array Bool} {j : Nat} (h : j < listed.size) : listed.getD j false = listed.getD j true := by
  simp [h]

theorem any_wp {P : Program} {ops : Array Oper} {nt m nb : Nat} {D : Nat → Nat → Prop} {K : AEnv → AHeap → Prop} {Q : Exit → Act → World → Prop} (hreg : regOK nt ops.toList = true) (hD : DrawFacts ops D) (hm : m ≤ nb) :
    ∀ (fuel : Nat) (listed : Array Bool) (E : Env) (env : AEnv) (h : AHeap) (a : Act) (w : World), listed.size = ops.size →
      (remL nb (fun j => listed.getD j true) 0 (strip ops.toList)).length ≤ fuel → (∀ i j, i < ops.size → listed.getD i true = true → D i j → listed.getD j true = true) →
      SimD nt nb ops.size E env h (fun j => listed.getD j true) a w → TDs P (ops.toList.map (·.dst)) K (remL nb (fun j => listed.getD j true) 0 (strip ops.toList)) env h →
      (∀ E' env' h' a' w', K env' h' → Sim nt E' env' h' (nb + ops.size) a' w' → Evol m E h w E' h' w' → Q .normal a' w') →
      wpAny P .any ops Q fuel listed a w := by
  have slen : (strip ops.toList).length = ops.size := by simp [strip]
  have fin : ∀ (listed : Array Bool) (E : Env) (env : AEnv) (h : AHeap) (a : Act) (w : World), remL nb (fun j => listed.getD j true) 0 (strip ops.toList) = [] → SimD nt nb ops.size E env h (fun j => listed.getD j true) a w →
      TDs P (ops.toList.map (·.dst)) K (remL nb (fun j => listed.getD j true) 0 (strip ops.toList)) env h →
      (∀ E' env' h' a' w', K env' h' → Sim nt E' env' h' (nb + ops.size) a' w' → Evol m E h w E' h' w' → Q .normal a' w') → Q .normal a w := by
    intro listed E env h a w hr hs ht hQ
    rw [hr] at ht
    exact hQ E env h a w ht ⟨hs.ok, hs.env, hs.fresh, hs.size, hs.defers⟩ (.refl _ _ _ _)
  have alldone : ∀ (listed : Array Bool), listed.size = ops.size → remL nb (fun j => listed.getD j true) 0 (strip ops.toList) = [] → ∀ j, listed.getD j true = true := by
    intro listed hsz hr j
    by_cases hj : j < ops.size
    · exact remL_done hr j (by omega) (by rw [slen]; omega)
    · simp [show ¬ j < listed.size by omega]
  have noready : ∀ (listed : Array Bool), listed.size = ops.size → Region.ready .any ops listed = [] → remL nb (fun j => listed.getD j true) 0 (strip ops.toList) = [] := by
    intro listed hsz hr
    refine remL_nil fun j => ?_
    induction j using Nat.strongRecOn with
    | _ j ih =>
      cases hj : listed.getD j true with
      | true => rfl
      | false =>
        have hlt : j < listed.size := by
          rcases Nat.lt_or_ge j listed.size with h | h
          · exact h
          · simp [show ¬ j < listed.size by omega] at hj
        have ho : ops[j]? = some ops[j] := by simp [show j < ops.size by omega]
        have : j ∈ Region.ready .any ops listed := by
          rw [mem_ready]
          refine ⟨hj, _, ho, fun e he hb => ?_⟩
          have hlt2 := hD.back j _ ho e.on (by
            unfold backs
            rw [List.mem_map]
            exact ⟨e, by rw [List.mem_filter]; exact ⟨by simpa using he, hb⟩, rfl⟩)
          rw [getD_both (by omega)]
          exact ih _ hlt2
        rw [hr] at this
        cases this
  intro fuel
  induction fuel with
  | zero =>
    intro listed E env h a w hsz hlen hcl hs ht hQ
    have hr : remL nb (fun j => listed.getD j true) 0 (strip ops.toList) = [] := List.eq_nil_of_length_eq_zero (by omega)
    refine ⟨?_, fin listed E env h a w hr hs ht hQ⟩
    have hall := alldone listed hsz hr
    cases hrd : Region.ready .any ops listed with
    | nil => rfl
    | cons i l =>
      have : i ∈ Region.ready .any ops listed := by rw [hrd]; simp
      rw [mem_ready] at this
      rw [hall i] at this
      cases this.1
  | succ fuel ih =>
    intro listed E env h a w hsz hlen hcl hs ht hQ
    refine ⟨fun hr => fin listed E env h a w (noready listed hsz hr) hs ht hQ, fun i hi => ?_⟩
    rw [mem_ready] at hi
    obtain ⟨hi0, o, ho, hedge⟩ := hi
    have hisz : i < ops.size := (Array.getElem?_eq_some_iff.1 ho).1
    have hset : (listed.setIfInBounds i true).getD i true = true := by simp [show i < listed.size by omega]
    have hoth : ∀ j, j ≠ i → (listed.setIfInBounds i true).getD j true = listed.getD j true := fun j hj => getD_set_ne true (Ne.symm hj)
    obtain ⟨pre, post, h1, h2, h3⟩ := remL_split (nb := nb) (lst := fun j => listed.getD j true) (lst' := fun j => (listed.setIfInBounds i true).getD j true) (i := i) hi0 hset hoth (l := strip ops.toList) (k := 0) (o := ⟨o.dst, o.op, o.guard⟩) (by omega) (by
      have : ops.toList[i]? = some o := by simpa using ho
      simp [strip, this])
    rw [h1] at ht hlen
    have ed : ∀ e ∈ backs o, listed.getD e true = true := fun e he => by
      unfold backs at he
      rw [List.mem_map] at he
      obtain ⟨e2, h4, rfl⟩ := he
      rw [List.mem_filter] at h4
      have hlt := hD.back i o ho e2.on (by
            unfold backs
            rw [List.mem_map]
            exact ⟨e2, by rw [List.mem_filter]; exact h4, rfl⟩)
      have := hedge e2 (by simpa using h4.1) h4.2
      rwa [getD_both (by omega)] at this
    have above : ∀ j, D i j → listed.getD j true = true := fun j hj => by
      obtain ⟨e, he, h4⟩ := hD.anc i o ho j hj
      have hl := ed e he
      rcases h4 with h4 | h4
      · rw [← h4]; exact hl
      · exact hcl e j (Nat.lt_trans (hD.back i o ho e he) hisz) hl h4
    have ht2 := TDs_pull (n := nb + i) (y := ⟨o.dst, o.op, o.guard⟩) pre (fun q hq => by
      obtain ⟨j, x, q1, q2, q3, q4, q5⟩ := h3 q hq
      subst q3
      refine ⟨by simp; omega, ?_⟩
      rw [Nat.sub_zero] at q5
      have hx : ∃ xo, ops[j]? = some xo ∧ x = ⟨xo.dst, xo.op, xo.guard⟩ := by
        refine ⟨ops[j], by simp [show j < ops.size by omega], ?_⟩
        simp [strip, show j < ops.size by omega] at q5
        exact q5.symm
      obtain ⟨xo, hxo, rfl⟩ := hx
      rcases hD.pass i o j xo ho q2 hxo with h4 | h4
      · rw [above j h4] at q4; cases q4
      · exact h4) ht
    have hmem : o ∈ ops.toList := by simpa using Array.mem_of_getElem? ho
    have hdst : ∀ t, o.dst = some t → t < a.tmps.size := by
      intro t ht
      have := List.all_eq_true.1 hreg o hmem
      rw [ht] at this
      rw [hs.size]
      simpa using this
    have hun : E.ch (nb + i) = .unborn := hs.free i hisz hi0
    have hnone : h (nb + i) = none := by
      cases hh : h (nb + i) with
      | none => rfl
      | some ck => have := hs.ok.ck (nb + i); rw [hh, hun] at this; exact absurd rfl this.born
    have cl2 : ∀ i' j, i' < ops.size → (listed.setIfInBounds i true).getD i' true = true → D i' j → (listed.setIfInBounds i true).getD j true = true := by
      intro i' j hlt h4 h5
      by_cases e : j = i
      · rw [e]; exact hset
      · rw [hoth j e]
        by_cases e2 : i' = i
        · rw [e2] at h5; exact above j h5
        · rw [hoth i' e2] at h4; exact hcl i' j hlt h4 h5
    have len2 : (remL nb (fun j => (listed.setIfInBounds i true).getD j true) 0 (strip ops.toList)).length ≤ fuel := by
      rw [h2]; simp at hlen ⊢; omega
    have exec : (∃ x h', stepD P (nb + i) env h o.op x h' ∧ TDs P (ops.toList.map (·.dst)) K (pre ++ post) (putE env o.dst x) h') → o.wp P a w (wpAny P .any ops Q fuel (listed.setIfInBounds i true)) Q := by
      rintro ⟨x, h', hst, hk⟩
      refine exec1_go hs.ok hs.env hun (stepD_exec1 hnone hst) _ Q (fun val w' E' y g hyg g1 g2 g3 g4 => ?_) (fun v w' E' y g hF => hF.elim)
      obtain ⟨rfl, rfl⟩ := hyg
      have hle := g2.le hun
      have hev := g4.evol g2 (show m ≤ nb + i by omega)
      refine ih _ E' _ g _ w' (by simpa using hsz) len2 cl2 ⟨g3, put_env hle hs.env g1 hdst, fun id hid => ?_, fun j hj hjl => ?_, by rw [put_size]; exact hs.size, by rw [put_defers]; exact hs.defers⟩ (by rw [h2]; exact hk)
        (fun E2 env2 h2' a2 w2 q1 q2 q3 => hQ E2 env2 h2' a2 w2 q1 q2 (hev.trans q3))
      · rcases g2.ch id (by omega) with e | ⟨_, e⟩
        · rw [e]; exact hs.fresh id hid
        · exact absurd (hs.fresh id hid) e
      · have hji : j ≠ i := fun e => by subst e; rw [show (listed.setIfInBounds j true).getD j true = true from hset] at hjl; cases hjl
        rw [show (listed.setIfInBounds i true).getD j true = listed.getD j true from hoth j hji] at hjl
        rcases g2.ch (nb + j) (by omega) with e | ⟨_, e⟩
        · rw [e]; exact hs.free j hj hjl
        · exact absurd (hs.free j hj hjl) e
    unfold wpOp
    rw [ho]
    simp only []
    simp only [TD] at ht2
    cases hg : o.guard with
    | none =>
      rw [hg] at ht2
      have hw : Region.wanted o (yielded ops a.tmps) = true := by simp [Region.wanted, hg]
      rw [if_pos hw]
      exact .inl (exec ht2)
    | some jw =>
      obtain ⟨j, want⟩ := jw
      rw [hg] at ht2
      simp only [] at ht2
      obtain ⟨b, hb, t1, t2⟩ := ht2
      have hy := yld_spec hs.env hs.size hreg hb
      by_cases e : b = want
      · have hw : Region.wanted o (yielded ops a.tmps) = true := by simp only [Region.wanted, hg, hy, e, beq_self_eq_true, beq_iff_eq, not_false_eq_true]
        rw [if_pos hw]
        exact .inl (exec (t1 e))
      · have hw : ¬ Region.wanted o (yielded ops a.tmps) = true := by simp only [Region.wanted, hg, hy, e, beq_self_eq_true, beq_iff_eq, not_false_eq_true]
        rw [if_neg hw]
        refine ih _ E _ h _ w (by simpa using hsz) len2 cl2 ⟨hs.ok, put_env (.refl _) hs.env (.p (.sc _)) hdst, hs.fresh, fun j hj hjl => ?_, by rw [put_size]; exact hs.size, by rw [put_defers]; exact hs.defers⟩ (by rw [h2]; exact t2 e) hQ
        have hji : j ≠ i := fun e => by subst e; rw [show (listed.setIfInBounds j true).getD j true = true from hset] at hjl; cases hjl
        rw [show (listed.setIfInBounds i true).getD j true = listed.getD j true from hoth j hji] at hjl
        exact hs.free j hj hjl

theorem WOK.drawn {E : Env} {h : AHeap} {w : World} (hw : WOK E h w) (n : Nat) : WOK E h { w with drawn := n } := ⟨hw.imm, hw.ck, hw.dist⟩

theorem c_region_draw {P : Program} {nt m nb : Nat} {env : AEnv} {h : AHeap} {Q : AQ} {id : Nat} {ops : Array Oper} (D : List Nat) (hmix : P.follows .mixedOrders = true) (hreg : regOK nt ops.toList = true) (hok : drawOK ops.toList D = true)
    (hk : regD P (ops.toList.map (·.dst)) (fun env h => Q .normal env h (nb + ops.size)) nb (strip ops.toList) env h) : ACode P nt m (.region id ops true) env h nb Q := by
  intro E a w hs hm
  refine wp_region_any hmix ?_
  have hnone : ∀ id, nb ≤ id → h id = none := fun id hid => by
    cases hh : h id with
    | none => rfl
    | some ck => have := hs.ok.ck id; rw [hh, hs.fresh id hid] at this; exact absurd rfl this.born
  have hlst : ∀ j, j < ops.size → (Array.replicate ops.size false).getD j true = false := fun j hj => by simp [hj]
  have hrem : remL nb (fun j => (Array.replicate ops.size false).getD j true) 0 (strip ops.toList) = remL nb (fun _ => false) 0 (strip ops.toList) := by
    have key : ∀ (l : List SOp) (k : Nat), k + l.length ≤ ops.size → remL nb (fun j => (Array.replicate ops.size false).getD j true) k l = remL nb (fun _ => false) k l := by
      intro l
      induction l with
      | nil => intro k _; rfl
      | cons o l ih =>
        intro k hk
        simp at hk
        rw [remL, remL, hlst k (by omega), ih (k + 1) (by omega)]
    exact key _ 0 (by simp [strip])
  refine any_wp hreg (drawOK_facts hok) hm ops.size _ E env h a _ (by simp) (Nat.le_trans remL_len (by simp [strip])) (fun i j hi h1 => ?_) ⟨hs.ok.drawn _, hs.env, fun id hid => hs.fresh id (by omega), fun j _ _ => hs.fresh _ (by omega), hs.size, hs.defers⟩ ?_
    (fun E' env' h' a' w' h1 h2 h3 => ⟨E', .normal, env', h', nb + ops.size, h1, by omega, trivial, h2, ⟨h3.I, h3.ch, h3.size, h3.frame, h3.imm, h3.owned, h3.same⟩⟩)
  · rw [hlst i hi] at h1; cases h1
  · rw [hrem]
    exact regD_TDs (k := 0) (by simpa using hnone) hk

theorem cs_draw {P : Program} {nt m nb : Nat} {env : AEnv} {h : AHeap} {Q : AQ} {cs : List Code} {id : Nat} {ops : Array Oper} (D : List Nat) (hmix : P.follows .mixedOrders = true) (hreg : regOK nt ops.toList = true) (hok : drawOK ops.toList D = true)
    (hk : regD P (ops.toList.map (·.dst)) (fun env h => ACs P nt m cs Q env h (nb + ops.size)) nb (strip ops.toList) env h) : ACs P nt m (.region id ops true :: cs) Q env h nb :=
  c_region_draw D hmix hreg hok hk

end Go.Ab

set_option linter.unusedVariables false
set_option linter.unusedSimpArgs false
namespace Go.Ab
open Go

section
variable {P : Program} {ds : List (Option Tmp)} {K : AEnv → AHeap → Prop} {nid : Nat} {env : AEnv} {h : AHeap} {l : List SOp}

theorem regD_nil : regD P ds K nid [] env h = K env h := rfl

def conD (P : Program) (ds : List (Option Tmp)) (K : AEnv → AHeap → Prop) (nid : Nat) (r : Option (Prop × AV × AHeap)) (dst : Option Tmp) (l : List SOp) (env : AEnv) : Prop :=
  match r with
  | some (s, x, h') => s ∧ regD P ds K (nid + 1) l (putE env dst x) h'
  | none => False

theorem conD_some {s : Prop} {x : AV} {h' : AHeap} {dst : Option Tmp} : conD P ds K nid (some (s, x, h')) dst l env = (s ∧ regD P ds K (nid + 1) l (putE env dst x) h') := rfl

theorem regD_op {dst : Option Tmp} {op : Op} (ho : isCall op = false) : regD P ds K nid (⟨dst, op, none⟩ :: l) env h = conD P ds K nid (aop P nid env h op) dst l env := by
  simp only [regD, conD, execD]
  cases op <;> try rfl
  · rename_i c
    obtain ⟨callee, args, ats⟩ := c
    cases callee <;> first | rfl | cases ho

theorem regD_move {dst : Option Tmp} {x : Operand} : regD P ds K nid (⟨dst, .move x, none⟩ :: l) env h = conD P ds K nid (aop P nid env h (.move x)) dst l env := regD_op rfl
theorem regD_assign {dst : Option Tmp} {x : Operand} : regD P ds K nid (⟨dst, .assign x, none⟩ :: l) env h = conD P ds K nid (aop P nid env h (.assign x)) dst l env := regD_op rfl
theorem regD_pick {dst : Option Tmp} {c : Operand} {x : Operand} {y : Operand} : regD P ds K nid (⟨dst, .pick c x y, none⟩ :: l) env h = conD P ds K nid (aop P nid env h (.pick c x y)) dst l env := regD_op rfl
theorem regD_alloc {dst : Option Tmp} {t : TypeId} : regD P ds K nid (⟨dst, .alloc t, none⟩ :: l) env h = conD P ds K nid (aop P nid env h (.alloc t)) dst l env := regD_op rfl
theorem regD_box {dst : Option Tmp} {t : TypeId} {x : Operand} : regD P ds K nid (⟨dst, .box t x, none⟩ :: l) env h = conD P ds K nid (aop P nid env h (.box t x)) dst l env := regD_op rfl
theorem regD_build {dst : Option Tmp} {t : TypeId} {ps : Array (Nat × Operand)} : regD P ds K nid (⟨dst, .build t ps, none⟩ :: l) env h = conD P ds K nid (aop P nid env h (.build t ps)) dst l env := regD_op rfl
theorem regD_buildSlice {dst : Option Tmp} {t : TypeId} {n : Nat} {ps : Array (Nat × Operand)} : regD P ds K nid (⟨dst, .buildSlice t n ps, none⟩ :: l) env h = conD P ds K nid (aop P nid env h (.buildSlice t n ps)) dst l env := regD_op rfl
theorem regD_load {dst : Option Tmp} {t : TypeId} {x : Operand} : regD P ds K nid (⟨dst, .load t x, none⟩ :: l) env h = conD P ds K nid (aop P nid env h (.load t x)) dst l env := regD_op rfl
theorem regD_store {dst : Option Tmp} {t : TypeId} {x : Operand} {y : Operand} : regD P ds K nid (⟨dst, .store t x y, none⟩ :: l) env h = conD P ds K nid (aop P nid env h (.store t x y)) dst l env := regD_op rfl
theorem regD_nilCheck {dst : Option Tmp} {x : Operand} : regD P ds K nid (⟨dst, .nilCheck x, none⟩ :: l) env h = conD P ds K nid (aop P nid env h (.nilCheck x)) dst l env := regD_op rfl
theorem regD_binOp {dst : Option Tmp} {b : BinOp} {t : TypeId} {x : Operand} {y : Operand} {t' : TypeId} : regD P ds K nid (⟨dst, .binOp b t x y t', none⟩ :: l) env h = conD P ds K nid (aop P nid env h (.binOp b t x y t')) dst l env := regD_op rfl
theorem regD_unOp {dst : Option Tmp} {u : UnOp} {t : TypeId} {x : Operand} : regD P ds K nid (⟨dst, .unOp u t x, none⟩ :: l) env h = conD P ds K nid (aop P nid env h (.unOp u t x)) dst l env := regD_op rfl
theorem regD_convert {dst : Option Tmp} {t : TypeId} {t' : TypeId} {x : Operand} : regD P ds K nid (⟨dst, .convert t t' x, none⟩ :: l) env h = conD P ds K nid (aop P nid env h (.convert t t' x)) dst l env := regD_op rfl
theorem regD_makeFunc {dst : Option Tmp} {fn : Fn} {xs : Array Operand} {ys : Array Operand} : regD P ds K nid (⟨dst, .makeFunc fn xs ys, none⟩ :: l) env h = conD P ds K nid (aop P nid env h (.makeFunc fn xs ys)) dst l env := regD_op rfl
theorem regD_makeSlice {dst : Option Tmp} {t : TypeId} {x : Operand} {y : Operand} : regD P ds K nid (⟨dst, .makeSlice t x y, none⟩ :: l) env h = conD P ds K nid (aop P nid env h (.makeSlice t x y)) dst l env := regD_op rfl
theorem regD_slice {dst : Option Tmp} {t : TypeId} {x : Operand} {lo : Option Operand} {hi : Option Operand} {mx : Option Operand} : regD P ds K nid (⟨dst, .slice t x lo hi mx, none⟩ :: l) env h = conD P ds K nid (aop P nid env h (.slice t x lo hi mx)) dst l env := regD_op rfl
theorem regD_fieldAddr {dst : Option Tmp} {t : TypeId} {x : Operand} {n : Nat} : regD P ds K nid (⟨dst, .fieldAddr t x n, none⟩ :: l) env h = conD P ds K nid (aop P nid env h (.fieldAddr t x n)) dst l env := regD_op rfl
theorem regD_field {dst : Option Tmp} {t : TypeId} {x : Operand} {n : Nat} : regD P ds K nid (⟨dst, .field t x n, none⟩ :: l) env h = conD P ds K nid (aop P nid env h (.field t x n)) dst l env := regD_op rfl
theorem regD_indexAddr {dst : Option Tmp} {t : TypeId} {x : Operand} {y : Operand} : regD P ds K nid (⟨dst, .indexAddr t x y, none⟩ :: l) env h = conD P ds K nid (aop P nid env h (.indexAddr t x y)) dst l env := regD_op rfl
theorem regD_index {dst : Option Tmp} {t : TypeId} {x : Operand} {y : Operand} : regD P ds K nid (⟨dst, .index t x y, none⟩ :: l) env h = conD P ds K nid (aop P nid env h (.index t x y)) dst l env := regD_op rfl
theorem regD_extract {dst : Option Tmp} {x : Operand} {n : Nat} : regD P ds K nid (⟨dst, .extract x n, none⟩ :: l) env h = conD P ds K nid (aop P nid env h (.extract x n)) dst l env := regD_op rfl
theorem regD_builtin {dst : Option Tmp} {b : Builtin} {xs : Array Operand} {ts : Array TypeId} : regD P ds K nid (⟨dst, .call { callee := .builtin b, args := xs, argTypes := ts }, none⟩ :: l) env h = conD P ds K nid (aop P nid env h (.call { callee := .builtin b, args := xs, argTypes := ts })) dst l env := regD_op rfl

def grdD (P : Program) (ds : List (Option Tmp)) (K : AEnv → AHeap → Prop) (nid : Nat) (r : Option Bool) (j : Nat) (want : Bool) (dst : Option Tmp) (op : Op) (l : List SOp) (env : AEnv) (h : AHeap) : Prop :=
  match r with
  | some b => (b = want → regD P ds K nid (⟨dst, op, none⟩ :: l) (setY ds env j b) h) ∧ (b ≠ want → regD P ds K (nid + 1) l (putE (setY ds env j b) dst (.p (.sc (.tuple #[])))) h)
  | none => False

theorem regD_grd {dst : Option Tmp} {op : Op} {j : Nat} {want : Bool} : regD P ds K nid (⟨dst, op, some (j, want)⟩ :: l) env h = grdD P ds K nid (yld ds env j want) j want dst op l env h := by
  simp only [regD, grdD]
  cases hy : yld ds env j want with
  | none => rfl
  | some b => simp only [setY_eq hy]

theorem grdD_tt {dst : Option Tmp} {op : Op} {j : Nat} : grdD P ds K nid (some true) j true dst op l env h = regD P ds K nid (⟨dst, op, none⟩ :: l) (setY ds env j true) h := by simp [grdD]
theorem grdD_ff {dst : Option Tmp} {op : Op} {j : Nat} : grdD P ds K nid (some false) j false dst op l env h = regD P ds K nid (⟨dst, op, none⟩ :: l) (setY ds env j false) h := by simp [grdD]
theorem grdD_tf {dst : Option Tmp} {op : Op} {j : Nat} : grdD P ds K nid (some true) j false dst op l env h = regD P ds K (nid + 1) l (putE (setY ds env j true) dst (.p (.sc (.tuple #[])))) h := by simp [grdD]
theorem grdD_ft {dst : Option Tmp} {op : Op} {j : Nat} : grdD P ds K nid (some false) j true dst op l env h = regD P ds K (nid + 1) l (putE (setY ds env j false) dst (.p (.sc (.tuple #[])))) h := by simp [grdD]

theorem grdD_b {dst : Option Tmp} {op : Op} {j : Nat} {want b : Bool} (ht : b = true → grdD P ds K nid (some true) j want dst op l env h) (hf : b = false → grdD P ds K nid (some false) j want dst op l env h) :
    grdD P ds K nid (some b) j want dst op l env h := by
  cases b
  · exact hf rfl
  · exact ht rfl

theorem grdD_dec {dst : Option Tmp} {op : Op} {j : Nat} {want : Bool} {p : Prop} [Decidable p] (ht : p → grdD P ds K nid (some true) j want dst op l env h) (hf : ¬ p → grdD P ds K nid (some false) j want dst op l env h) :
    grdD P ds K nid (some (decide p)) j want dst op l env h :=
  grdD_b (fun e => ht (of_decide_eq_true e)) (fun e => hf (of_decide_eq_false e))

theorem regD_call {dst : Option Tmp} {fo : Operand} {args : Array Operand} {ats : Array TypeId} {f : FuncId} {caps : List AV} {largs : List AV} {x : AV} (hf : calleeA env fo = some (f, caps)) (hcall : AFun P f largs x) (hc : callable P f = true)
    (hargs : normL (args.toList.map (ev env) ++ caps) = largs) (hids : idsLtL 0 largs) (hx : idsLt 0 x) (hk : regD P ds K (nid + 1) l (putE env dst x) h) :
    regD P ds K nid (⟨dst, .call { callee := .value fo, args, argTypes := ats }, none⟩ :: l) env h := by
  subst hargs
  simp only [regD, execD, callD, hf]
  exact ⟨hc, x, hcall, hids, hx, hk⟩
end

attribute [push_cast] regD_nil conD_some regD_move regD_assign regD_pick regD_alloc regD_box regD_build regD_buildSlice regD_load regD_store regD_nilCheck regD_binOp regD_unOp regD_convert regD_makeFunc regD_makeSlice regD_slice regD_fieldAddr regD_field regD_indexAddr regD_index regD_extract regD_builtin regD_grd grdD_tt grdD_ff grdD_tf grdD_ft

section
variable {P : Program} {nt m nb : Nat} {env : AEnv} {h : AHeap} {Q : AQ} {cs : List Code} {x y : Code}
theorem condK_nd {p : Prop} [Decidable p] (ht : ¬ p → ACs P nt m (x :: cs) Q env h nb) (hf : p → ACs P nt m (y :: cs) Q env h nb) : condK P nt m (.p (.sc (.bool (!decide p)))) x y cs Q env h nb :=
  ⟨fun e => ht (by simpa using e), fun e => hf (by simpa using e)⟩
theorem condK_nb {b : Bool} (ht : b = false → ACs P nt m (x :: cs) Q env h nb) (hf : b = true → ACs P nt m (y :: cs) Q env h nb) : condK P nt m (.p (.sc (.bool (!b)))) x y cs Q env h nb :=
  ⟨fun e => ht (by simpa using e), fun e => hf (by simpa using e)⟩
end

section
variable {P : Program} {ds : List (Option Tmp)} {K : AEnv → AHeap → Prop} {Kp : AV → Prop} {nid : Nat} {env : AEnv} {h : AHeap} {l : List SOp} {dst : Option Tmp} {op : Op} {j : Nat} {want : Bool}
theorem grdK_nd {p : Prop} [Decidable p] (ht : ¬ p → grdK P ds K Kp nid (some true) j want dst op l env h) (hf : p → grdK P ds K Kp nid (some false) j want dst op l env h) :
    grdK P ds K Kp nid (some (!decide p)) j want dst op l env h := grdK_b (fun e => ht (by simpa using e)) (fun e => hf (by simpa using e))
theorem grdK_nb {b : Bool} (ht : b = false → grdK P ds K Kp nid (some true) j want dst op l env h) (hf : b = true → grdK P ds K Kp nid (some false) j want dst op l env h) :
    grdK P ds K Kp nid (some (!b)) j want dst op l env h := grdK_b (fun e => ht (by simpa using e)) (fun e => hf (by simpa using e))
end

/-! ### Numbers and the values that hold them -/

def i64 (n : Int) : AV := .p (.sc (.int .i64 n))
def i32 (n : Int) : AV := .p (.sc (.int .i32 n))
def boolA (b : Bool) : AV := .p (.sc (.bool b))
/-- A list of rows that holds bytes. -/
def byteR (b : List Int) : List (List PV) := b.map fun x => [.sc (.int .u8 x)]
/-- A list of rows that holds ints. -/
def intR (b : List Int) : List (List PV) := b.map fun x => [.sc (.int .i64 x)]
def bytesA (b : List Int) : AV := .p (.fro (byteR b))
def intsA (b : List Int) : AV := .p (.fro (intR b))

theorem byteR_len (b : List Int) : (byteR b).length = b.length := by simp [byteR]
theorem intR_len (b : List Int) : (intR b).length = b.length := by simp [intR]
theorem byteR_at (b : List Int) (k : Nat) (h : k < b.length) : (byteR b).getD k [] = [.sc (.int .u8 (b.getD k 0))] := by simp [byteR, h]
theorem intR_at (b : List Int) (k : Nat) (h : k < b.length) : (intR b).getD k [] = [.sc (.int .i64 (b.getD k 0))] := by simp [intR, h]
theorem byteR_cut (b : List Int) (i j : Nat) : ((byteR b).take j).drop i = byteR ((b.take j).drop i) := by simp [byteR, List.map_drop, List.map_take]
theorem byteR_drop (b : List Int) (i : Nat) : (byteR b).drop i = byteR (b.drop i) := by simp [byteR, List.map_drop]
theorem byteR_take (b : List Int) (i : Nat) : (byteR b).take i = byteR (b.take i) := by simp [byteR, List.map_take]
theorem intR_drop (b : List Int) (i : Nat) : (intR b).drop i = intR (b.drop i) := by simp [intR, List.map_drop]
theorem intR_take (b : List Int) (i : Nat) : (intR b).take i = intR (b.take i) := by simp [intR, List.map_take]

theorem byteR_one (b : List Int) : (∀ r : List PV, r ∈ byteR b → r.length = 1) = True := by simp [byteR]
theorem intR_one (b : List Int) : (∀ r : List PV, r ∈ intR b → r.length = 1) = True := by simp [intR]
theorem one_int {k : IntKind} {n : Int} : (Value.int k n).oneCell' = true := rfl
theorem one_bool {b : Bool} : (Value.bool b).oneCell' = true := rfl
theorem intR_nil : intR [] = [] := rfl
theorem byteR_nil : byteR [] = [] := rfl
theorem intR_snoc (l : List Int) (x : Int) : intR l ++ [[.sc (.int .i64 x)]] = intR (l ++ [x]) := by simp [intR]
theorem cells_int {k : IntKind} {n : Int} : (Value.int k n).cells = #[Value.int k n] := rfl
theorem cells_bool {b : Bool} : (Value.bool b).cells = #[Value.bool b] := rfl
theorem cells_agg {l : Array Value} : (Value.agg l).cells = l := rfl
attribute [push_cast] cells_int cells_bool cells_agg List.toList_toArray
attribute [push_cast] one_int one_bool intR_nil byteR_nil
attribute [push_cast] byteR_one intR_one byteR_drop byteR_take intR_drop intR_take

attribute [push_cast] i64 i32 boolA bytesA intsA byteR_len intR_len

end Go.Ab

set_option linter.unusedVariables false
set_option linter.unusedSimpArgs false
namespace Go.Ab
open Go

/-- Chunks, numbered from 0. -/
def lH (l : List Ck) : AHeap := fun i => l[i]?
theorem lH_nil {i : Nat} : lH [] i = none := by simp [lH]
theorem lH_zero {c : Ck} {l : List Ck} : lH (c :: l) 0 = some c := rfl
theorem lH_succ {c : Ck} {l : List Ck} {i : Nat} : lH (c :: l) (i + 1) = lH l i := by simp [lH]

/-- The same with holes: chunks that are used up. -/
def lO (l : List (Option Ck)) : AHeap := fun i => l.getD i none
theorem lO_nil {i : Nat} : lO [] i = none := by simp [lO]
theorem lO_zero {c : Option Ck} {l : List (Option Ck)} : lO (c :: l) 0 = c := rfl
theorem lO_succ {c : Option Ck} {l : List (Option Ck)} {i : Nat} : lO (c :: l) (i + 1) = lO l i := by simp [lO]

/-- A function that is handed chunks, tells y and leaves the chunks so: one more, where it made one. -/
def AMem (P : Program) (f : FuncId) (cks : List Ck) (args : List AV) (y : AV) (cks' : List (Option Ck)) : Prop :=
  ACalls P f cks.length args (lH cks) (fun x h => x = y ∧ h = lO cks') (fun _ => False)

def putL (ρ : Nat → Nat) (h : AHeap) : List Nat → List (Option Ck) → AHeap
  | id :: ids, c :: cs => upd (putL ρ h ids cs) id (Option.map (renCk ρ) c)
  | _, _ => h

def hasL (ρ : Nat → Nat) (h : AHeap) : List Nat → List Ck → Prop
  | id :: ids, c :: cs => h id = some (renCk ρ c) ∧ hasL ρ h ids cs
  | [], [] => True
  | _, _ => False

def idsLtCks (m : Nat) : List Ck → Prop
  | [] => True
  | c :: cs => idsLtCk m (some c) ∧ idsLtCks m cs

theorem idsLtCks_at {m : Nat} : ∀ {l : List Ck}, idsLtCks m l → ∀ i, idsLtCk m (lH l i)
  | [], _, i => by rw [lH_nil]; trivial
  | c :: l, h, 0 => h.1
  | c :: l, h, i + 1 => by rw [lH_succ]; exact idsLtCks_at h.2 i

theorem hasL_len {ρ : Nat → Nat} {h : AHeap} : ∀ {ids : List Nat} {cs : List Ck}, hasL ρ h ids cs → ids.length = cs.length
  | [], [], _ => rfl
  | [], _ :: _, hh => hh.elim
  | _ :: _, [], hh => hh.elim
  | _ :: ids, _ :: cs, hh => by simp [hasL_len hh.2]

theorem hasL_at {ρ : Nat → Nat} {h : AHeap} : ∀ {ids : List Nat} {cs : List Ck}, hasL ρ h ids cs → ∀ i, i < ids.length → lH cs i ≠ none ∧ h (ids.getD i 0) = (lH cs i).map (renCk ρ)
  | [], [], _, i, hi => by simp at hi
  | [], _ :: _, hh, _, _ => hh.elim
  | _ :: _, [], hh, _, _ => hh.elim
  | id :: ids, c :: cs, hh, 0, _ => ⟨by simp [lH], by simpa [lH] using hh.1⟩
  | id :: ids, c :: cs, hh, i + 1, hi => by
    rw [lH_succ]
    simpa using hasL_at hh.2 i (by simpa using hi)

theorem putL_at (ρ : Nat → Nat) (h : AHeap) : ∀ (ids : List Nat) (cs : List (Option Ck)) (id : Nat), ids.Nodup → putL ρ h ids cs id = match ids.idxOf? id with
    | some i => match cs[i]? with
      | some c => Option.map (renCk ρ) c
      | none => h id
    | none => h id
  | [], cs, id, _ => by simp [putL]
  | j :: ids, [], id, _ => by
    simp only [putL]
    split
    · simp
    · rfl
  | j :: ids, c :: cs, id, hd => by
    simp only [putL]
    have hd' := List.nodup_cons.1 hd
    by_cases e : j = id
    · subst e
      rw [upd_same]
      simp [List.idxOf?_cons]
    · rw [upd_other _ _ (Ne.symm e), putL_at ρ h ids cs id hd'.2, List.idxOf?_cons]
      have : (j == id) = false := by simpa using e
      simp only [this, if_false]
      cases hx : ids.idxOf? id with
      | none => simp
      | some i => simp

theorem idxOf_app {rs : List Nat} {nid id : Nat} (hn : nid ∉ rs) : (rs ++ [nid]).idxOf? id = if id = nid then some rs.length else rs.idxOf? id := by
  induction rs with
  | nil =>
    by_cases e : nid = id
    · subst e; simp [List.idxOf?_cons]
    · have : (nid == id) = false := by simpa using e
      simp [List.idxOf?_cons, this, Ne.symm e]
  | cons r rs ih =>
    have h1 : nid ≠ r ∧ nid ∉ rs := by simpa using hn
    rw [List.cons_append, List.idxOf?_cons, ih h1.2, List.idxOf?_cons]
    by_cases e : r = id
    · subst e
      simp [Ne.symm h1.1]
    · have : (r == id) = false := by simpa using e
      simp only [this]
      by_cases e2 : id = nid
      · simp [e2]
      · simp [e2]

theorem pushH_putL {rs : List Nat} {nid : Nat} {cks : List (Option Ck)} {h : AHeap} (hd : rs.Nodup) (hn : nid ∉ rs) (hl : rs.length ≤ cks.length) (hnid : h nid = none) :
    pushH rs nid (lO cks) h = putL (look rs nid) h (rs ++ [nid]) cks := by
  funext id
  have hd2 : (rs ++ [nid]).Nodup := by
    rw [List.nodup_append]
    refine ⟨hd, by simp, fun a ha b hb => ?_⟩
    simp at hb
    subst hb
    exact fun e => hn (e ▸ ha)
  rw [putL_at _ _ _ _ _ hd2, idxOf_app hn]
  unfold pushH inside
  by_cases e : id = nid
  · subst e
    simp only [if_true, lO, List.getD_eq_getElem?_getD]
    cases cks[rs.length]? with
    | none => simp [hnid]
    | some c => simp
  · simp only [e, if_false]
    cases hx : rs.idxOf? id with
    | none => rfl
    | some i =>
      have hi : i < rs.length := by
        rw [List.idxOf?_eq_some_iff] at hx
        exact hx.1
      have : cks[i]? = some (cks[i]'(by omega)) := by simp [show i < cks.length by omega]
      simp only [lO, List.getD_eq_getElem?_getD, this, Option.getD_some]

/-- A call of such a function. -/
theorem CallK.mem {P : Program} {f : FuncId} {cks : List Ck} {cks' : List (Option Ck)} {args largs : List AV} {nid : Nat} {h : AHeap} {K : AV → AHeap → Prop} {Kp : AV → Prop} {y : AV} (hcall : AMem P f cks largs y cks') (rs : List Nat) (hc : callable P f = true)
    (hargs : normL args = renL (look rs nid) largs) (hids : idsLtL rs.length largs) (hd : rs.Nodup ∧ nid ∉ rs) (hhas : hasL (look rs nid) h rs cks) (hcks : idsLtCks rs.length cks) (hle : rs.length ≤ cks'.length) (hn : h nid = none)
    (hk : K (ren (look rs nid) y) (putL (look rs nid) h (rs ++ [nid]) cks')) : CallK P f args nid h K Kp := by
  have hlen := hasL_len hhas
  unfold AMem at hcall
  rw [← hlen] at hcall
  refine ⟨hc, rs, largs, lH cks, _, _, hcall, fun E vs hr => by rw [← hargs]; exact hr.norm, hids, hd.1, hd.2, fun i hi => ?_, fun i hi => by simp [lH, show cks.length ≤ i by omega], idsLtCks_at hcks, fun z l' h1 _ => ?_, fun x hx => hx.elim⟩
  · have := hasL_at hhas i hi
    refine ⟨this.1, ?_⟩
    rw [← this.2]
    simp [look, hi]
  · obtain ⟨rfl, rfl⟩ := h1
    rw [pushH_putL hd.1 hd.2 hle hn]
    exact hk

/-! ### The end of such a function -/

def allL (ρ : Nat → Nat) (n : Nat) (h : AHeap) : Nat → List (Option Ck) → Prop
  | _, [] => True
  | k, some c :: cs => (k < n ∧ h (ρ k) = some (renCk ρ c) ∧ idsLtCk n (some c)) ∧ allL ρ n h (k + 1) cs
  | k, none :: cs => allL ρ n h (k + 1) cs

def numL : Nat → List (Option Ck) → List (Nat × Ck)
  | _, [] => []
  | k, some c :: cs => (k, c) :: numL (k + 1) cs
  | k, none :: cs => numL (k + 1) cs

theorem allL_AllH {ρ : Nat → Nat} {n : Nat} {h : AHeap} : ∀ {cs : List (Option Ck)} {k : Nat}, allL ρ n h k cs → AllH ρ n h (numL k cs)
  | [], _, _ => trivial
  | some c :: cs, k, hh => ⟨hh.1, allL_AllH hh.2⟩
  | none :: cs, k, hh => allL_AllH (cs := cs) (k := k + 1) hh

theorem mkH_numL : ∀ (cs : List (Option Ck)) (k i : Nat), mkH (numL k cs) i = if k ≤ i then lO cs (i - k) else none
  | [], k, i => by simp [numL, mkH, lO]
  | some c :: cs, k, i => by
    show upd (mkH (numL (k + 1) cs)) k (some c) i = _
    by_cases e : i = k
    · subst e
      rw [upd_same]
      simp [lO]
    · rw [upd_other _ _ e, mkH_numL cs (k + 1) i]
      by_cases h : k ≤ i
      · rw [if_pos (by omega), if_pos h, show i - k = (i - (k + 1)) + 1 by omega, lO_succ]
      · rw [if_neg (by omega), if_neg h]
  | none :: cs, k, i => by
    show mkH (numL (k + 1) cs) i = _
    rw [mkH_numL cs (k + 1) i]
    by_cases e : i = k
    · subst e
      rw [if_neg (by omega), if_pos (Nat.le_refl _)]
      simp [lO]
    · by_cases h : k ≤ i
      · rw [if_pos (by omega), if_pos h, show i - k = (i - (k + 1)) + 1 by omega, lO_succ]
      · rw [if_neg (by omega), if_neg h]

/-- Which of the chunks a call leaves is the new one. -/
def newAt (m r i : Nat) : Nat := if i = m then r else i

def ltAll (n : Nat) (ks : List Nat) : Bool := ks.all fun k => decide (k < n)
theorem WeakR.new {m r : Nat} {ks : List Nat} (hr : m ≤ r) (hk : ltAll (m + 1) ks = true := by rfl) : WeakR m (newAt m r) (m + 1) ks :=
  ⟨fun i hi => by simp [newAt]; omega, fun i j hi hj hij => by
    have h1 := of_decide_eq_true (List.all_eq_true.1 hk i hi)
    have h2 := of_decide_eq_true (List.all_eq_true.1 hk j hj)
    simp only [newAt]; split <;> split <;> omega, by omega⟩
/-- A chunk that goes under another number: the old one is not told of any more. -/
theorem WeakR.move {m r : Nat} {ks : List Nat} (hk : (ltAll (m + 1) ks && !ks.contains r) = true := by rfl) : WeakR m (newAt m r) (m + 1) ks :=
  ⟨fun i hi => by simp [newAt]; omega, fun i j hi hj hij => by
    simp only [Bool.and_eq_true, Bool.not_eq_true', List.contains_eq_mem, decide_eq_false_iff_not] at hk
    have h1 := of_decide_eq_true (List.all_eq_true.1 hk.1 i hi)
    have h2 := of_decide_eq_true (List.all_eq_true.1 hk.1 j hj)
    have h3 : i ≠ r := fun e => hk.2 (e ▸ hi)
    have h4 : j ≠ r := fun e => hk.2 (e ▸ hj)
    simp only [newAt]; split <;> split <;> omega, by omega⟩

theorem ret_mw {P : Program} {env : AEnv} {h : AHeap} {nb m : Nat} {res : List ResultVar} {y : AV} {cks' : List (Option Ck)} {Rp : AV → Prop} (r : Nat) (hr : WeakR m (newAt m r) (m + 1) ((numL 0 cks').map (·.1))) {l : List AV} (hl : resA P env h res = some l) (hy : AVLe (newAt m r) (m + 1) (oneA l) y) (hi : idsLt (m + 1) y)
    (hh : allL (newAt m r) (m + 1) h 0 cks') : RetQ P m res (fun x h => x = y ∧ h = lO cks') Rp .ret env h nb := by
  refine ⟨l, hl, ⟨newAt m r, y, numL 0 cks', hr, hy, allL_AllH hh, hi, rfl, ?_⟩⟩
  funext i
  rw [mkH_numL]
  simp
theorem ret_mem {P : Program} {env : AEnv} {h : AHeap} {nb m : Nat} {res : List ResultVar} {y : AV} {cks' : List (Option Ck)} {Rp : AV → Prop} (r : Nat) (hr : m ≤ r) {l : List AV} (hl : resA P env h res = some l) (hy : AVLe (newAt m r) (m + 1) (oneA l) y) (hi : idsLt (m + 1) y)
    (hh : allL (newAt m r) (m + 1) h 0 cks') (hk : ltAll (m + 1) ((numL 0 cks').map (·.1)) = true := by rfl) : RetQ P m res (fun x h => x = y ∧ h = lO cks') Rp .ret env h nb := ret_mw r (.new hr hk) hl hy hi hh
theorem ret_move {P : Program} {env : AEnv} {h : AHeap} {nb m : Nat} {res : List ResultVar} {y : AV} {cks' : List (Option Ck)} {Rp : AV → Prop} (r : Nat) {l : List AV} (hl : resA P env h res = some l) (hy : AVLe (newAt m r) (m + 1) (oneA l) y) (hi : idsLt (m + 1) y)
    (hh : allL (newAt m r) (m + 1) h 0 cks') (hk : (ltAll (m + 1) ((numL 0 cks').map (·.1)) && !((numL 0 cks').map (·.1)).contains r) = true := by rfl) : RetQ P m res (fun x h => x = y ∧ h = lO cks') Rp .ret env h nb := ret_mw r (.move hk) hl hy hi hh

theorem amem_body {P : Program} {f : FuncId} {fn : Func} {c : Code} {nt : Nat} {args : List AV} {cks : List Ck} {cks' : List (Option Ck)} {y : AV} (hf : P.funcs[f]? = some fn) (hb : fn.body = some c) (hnt : fn.ntmps = nt) (hlen : args.length ≤ nt)
    (hc : ACs P nt cks.length [c] (RetQ P cks.length fn.results.toList (fun x h => x = y ∧ h = lO cks') (fun _ => False)) (envA args) (lH cks) cks.length) : AMem P f cks args y cks' :=
  acalls_body hf hb hnt hlen hc

/-- A nil slice in a variable's cell is taken up as an array of the call's own. -/
theorem cs_adopt_cell {P : Program} {nt m nb : Nat} {env : AEnv} {h : AHeap} {Q : AQ} {cs : List Code} {c : Code} (b j : Nat) (e : TypeId) (sz : Nat) {t : TypeId} {cells : List AV} (hb : h b = some (.box t cells)) (hj : cells[j]? = some .nil)
    (hc : ACs P nt m (c :: cs) Q env (upd (upd h b (some (.box t (cells.set j (.ref nb 0))))) nb (some (.arr e sz []))) (nb + 1)) : ACs P nt m (c :: cs) Q env h nb := by
  intro E a w hs hm
  have hu := hs.fresh nb (Nat.le_refl _)
  have hbn : b ≠ nb := fun e2 => by
    subst e2
    have := hs.ok.ck b
    rw [hb, hu] at this
    exact absurd rfl this.born
  have hle : ELe E { E with ch := upd E.ch nb (.sl (.slice none 0 0)) } := (EStep.new E nb _).le hu
  have hci : ∀ g, (ChI.sl (.slice none 0 0)).block = some g → w.heap.size ≤ g := fun g e => by cases e
  have hw' := hs.ok.new (ci := .sl (.slice none 0 0)) (ck := some (.arr e sz [])) hu (Nat.le_refl _) (fun _ _ => rfl) hci
    ⟨_, rfl, [], ⟨by simp, .inl ⟨rfl, rfl⟩⟩, fun r hr => by simp at hr, fun i j r x hr => by simp at hr, fun u hu => by simp at hu, fun g hg => by cases hg⟩
  have hev : Evol m E h w { E with ch := upd E.ch nb (.sl (.slice none 0 0)) } (upd h nb (some (.arr e sz []))) w := (Moved.new (Nat.le_refl _) (fun _ _ => rfl) hci).evol (.new E nb _) hm
  have hb2 : (upd h nb (some (.arr e sz []))) b = some (.box t cells) := by rw [upd_other _ _ hbn]; exact hb
  have hk := hw'.ck b
  rw [hb2] at hk
  obtain ⟨g, vs, e1, hg, hsz, hcl, hI⟩ := hk
  have hw2 := hw'.touch (g := g) (id := b) (w' := w) (ck := some (.box t (cells.set j (.ref nb 0)))) (by rw [hb2]; rfl) (by rw [e1]; rfl) (fun _ _ => rfl) (by
    rw [e1]
    refine ⟨g, vs, rfl, hg, by simpa using hsz, fun i x hx => ?_, hI⟩
    by_cases e : i = j
    · subst e
      have hlt : i < cells.length := (List.getElem?_eq_some_iff.1 hj).1
      rw [List.getElem?_set_self hlt] at hx
      injection hx with hx
      subst hx
      obtain ⟨v, hv, hr⟩ := hcl i _ hj
      refine ⟨v, hv, ?_⟩
      cases hr
      exact .ref (upd_same _ _ _) (fun hp => absurd hp (by omega))
    · rw [List.getElem?_set_ne (Ne.symm e)] at hx
      exact hcl i x hx)
  have hev2 := (Moved.touch (g := g) (id := b) (w' := w) (ck := some (.box t (cells.set j (.ref nb 0)))) (E := { E with ch := upd E.ch nb (.sl (.slice none 0 0)) }) (h := upd h nb (some (.arr e sz []))) (w := w) (by rw [hb2]; rfl) (by rw [e1]; rfl) (Nat.le_refl _) (fun _ _ => rfl)).evol (nid := m) (.refl _ _) (Nat.le_refl _)
  have hcomm : upd (upd h nb (some (.arr e sz []))) b (some (.box t (cells.set j (.ref nb 0)))) = upd (upd h b (some (.box t (cells.set j (.ref nb 0))))) nb (some (.arr e sz [])) := upd_comm _ _ _ hbn
  rw [hcomm] at hw2 hev2
  refine wp_mono (hc _ a w ⟨hw2, fun j => (hs.env j).mono hle, fun id hid => ?_, hs.size, hs.defers⟩ (by omega)) fun e a' w' ⟨E2, x, env', h', nb', g1, g2, g3, g4, g5⟩ => ⟨E2, x, env', h', nb', g1, g2, g3, g4, (hev.trans hev2).trans g5⟩
  show upd E.ch nb _ id = _
  rw [upd_other _ _ (by omega)]
  exact hs.fresh id (by omega)

attribute [push_cast] lO_nil lO_zero lO_succ Option.map_some Option.map_none lH_nil lH_zero lH_succ putL hasL idsLtCks allL newAt look

end Go.Ab

set_option linter.unusedVariables false
set_option linter.unusedSimpArgs false
namespace Go.Ab
open Go

section
variable {P : Program} {ds : List (Option Tmp)} {K : AEnv → AHeap → Prop} {Kp : AV → Prop} {nid : Nat} {env : AEnv} {h : AHeap} {l : List Oper}

def regO (P : Program) (ds : List (Option Tmp)) (K : AEnv → AHeap → Prop) (Kp : AV → Prop) (nid : Nat) (l : List Oper) (env : AEnv) (h : AHeap) : Prop := regK P ds K Kp nid (strip l) env h
def conO (P : Program) (ds : List (Option Tmp)) (K : AEnv → AHeap → Prop) (Kp : AV → Prop) (nid : Nat) (r : Option (Prop × AV × AHeap)) (dst : Option Tmp) (l : List Oper) (env : AEnv) : Prop := contK P ds K Kp nid r dst (strip l) env
def grdO (P : Program) (ds : List (Option Tmp)) (K : AEnv → AHeap → Prop) (Kp : AV → Prop) (nid : Nat) (r : Option Bool) (j : Nat) (want : Bool) (dst : Option Tmp) (op : Op) (l : List Oper) (env : AEnv) (h : AHeap) : Prop := grdK P ds K Kp nid r j want dst op (strip l) env h

theorem regO_nil : regO P ds K Kp nid [] env h = K env h := rfl
theorem conO_some {s : Prop} {x : AV} {h' : AHeap} {dst : Option Tmp} : conO P ds K Kp nid (some (s, x, h')) dst l env = (s ∧ regO P ds K Kp (nid + 1) l (putE env dst x) h') := rfl
theorem omv {dst : Option Tmp} {ty : TypeId} {pos : String} {af : Array Edge} {x : Operand} : regO P ds K Kp nid (⟨dst, .move x, ty, pos, af, none⟩ :: l) env h = conO P ds K Kp nid (aop P nid env h (.move x)) dst l env := regK_op rfl
theorem oas {dst : Option Tmp} {ty : TypeId} {pos : String} {af : Array Edge} {x : Operand} : regO P ds K Kp nid (⟨dst, .assign x, ty, pos, af, none⟩ :: l) env h = conO P ds K Kp nid (aop P nid env h (.assign x)) dst l env := regK_op rfl
theorem opk {dst : Option Tmp} {ty : TypeId} {pos : String} {af : Array Edge} {c x y : Operand} : regO P ds K Kp nid (⟨dst, .pick c x y, ty, pos, af, none⟩ :: l) env h = conO P ds K Kp nid (aop P nid env h (.pick c x y)) dst l env := regK_op rfl
theorem oal {dst : Option Tmp} {ty : TypeId} {pos : String} {af : Array Edge} {t : TypeId} : regO P ds K Kp nid (⟨dst, .alloc t, ty, pos, af, none⟩ :: l) env h = conO P ds K Kp nid (aop P nid env h (.alloc t)) dst l env := regK_op rfl
theorem obx {dst : Option Tmp} {ty : TypeId} {pos : String} {af : Array Edge} {t : TypeId} {x : Operand} : regO P ds K Kp nid (⟨dst, .box t x, ty, pos, af, none⟩ :: l) env h = conO P ds K Kp nid (aop P nid env h (.box t x)) dst l env := regK_op rfl
theorem obd {dst : Option Tmp} {ty : TypeId} {pos : String} {af : Array Edge} {t : TypeId} {ps : Array (Nat × Operand)} : regO P ds K Kp nid (⟨dst, .build t ps, ty, pos, af, none⟩ :: l) env h = conO P ds K Kp nid (aop P nid env h (.build t ps)) dst l env := regK_op rfl
theorem obs {dst : Option Tmp} {ty : TypeId} {pos : String} {af : Array Edge} {t : TypeId} {n : Nat} {ps : Array (Nat × Operand)} : regO P ds K Kp nid (⟨dst, .buildSlice t n ps, ty, pos, af, none⟩ :: l) env h = conO P ds K Kp nid (aop P nid env h (.buildSlice t n ps)) dst l env := regK_op rfl
theorem old {dst : Option Tmp} {ty : TypeId} {pos : String} {af : Array Edge} {t : TypeId} {x : Operand} : regO P ds K Kp nid (⟨dst, .load t x, ty, pos, af, none⟩ :: l) env h = conO P ds K Kp nid (aop P nid env h (.load t x)) dst l env := regK_op rfl
theorem ost {dst : Option Tmp} {ty : TypeId} {pos : String} {af : Array Edge} {t : TypeId} {x y : Operand} : regO P ds K Kp nid (⟨dst, .store t x y, ty, pos, af, none⟩ :: l) env h = conO P ds K Kp nid (aop P nid env h (.store t x y)) dst l env := regK_op rfl
theorem onc {dst : Option Tmp} {ty : TypeId} {pos : String} {af : Array Edge} {x : Operand} : regO P ds K Kp nid (⟨dst, .nilCheck x, ty, pos, af, none⟩ :: l) env h = conO P ds K Kp nid (aop P nid env h (.nilCheck x)) dst l env := regK_op rfl
theorem obo {dst : Option Tmp} {ty : TypeId} {pos : String} {af : Array Edge} {b : BinOp} {t : TypeId} {x y : Operand} {t' : TypeId} : regO P ds K Kp nid (⟨dst, .binOp b t x y t', ty, pos, af, none⟩ :: l) env h = conO P ds K Kp nid (aop P nid env h (.binOp b t x y t')) dst l env := regK_op rfl
theorem ouo {dst : Option Tmp} {ty : TypeId} {pos : String} {af : Array Edge} {u : UnOp} {t : TypeId} {x : Operand} : regO P ds K Kp nid (⟨dst, .unOp u t x, ty, pos, af, none⟩ :: l) env h = conO P ds K Kp nid (aop P nid env h (.unOp u t x)) dst l env := regK_op rfl
theorem ocv {dst : Option Tmp} {ty : TypeId} {pos : String} {af : Array Edge} {t t' : TypeId} {x : Operand} : regO P ds K Kp nid (⟨dst, .convert t t' x, ty, pos, af, none⟩ :: l) env h = conO P ds K Kp nid (aop P nid env h (.convert t t' x)) dst l env := regK_op rfl
theorem omf {dst : Option Tmp} {ty : TypeId} {pos : String} {af : Array Edge} {fn : Fn} {xs ys : Array Operand} : regO P ds K Kp nid (⟨dst, .makeFunc fn xs ys, ty, pos, af, none⟩ :: l) env h = conO P ds K Kp nid (aop P nid env h (.makeFunc fn xs ys)) dst l env := regK_op rfl
theorem oms {dst : Option Tmp} {ty : TypeId} {pos : String} {af : Array Edge} {t : TypeId} {x y : Operand} : regO P ds K Kp nid (⟨dst, .makeSlice t x y, ty, pos, af, none⟩ :: l) env h = conO P ds K Kp nid (aop P nid env h (.makeSlice t x y)) dst l env := regK_op rfl
theorem osl {dst : Option Tmp} {ty : TypeId} {pos : String} {af : Array Edge} {t : TypeId} {x : Operand} {lo hi mx : Option Operand} : regO P ds K Kp nid (⟨dst, .slice t x lo hi mx, ty, pos, af, none⟩ :: l) env h = conO P ds K Kp nid (aop P nid env h (.slice t x lo hi mx)) dst l env := regK_op rfl
theorem ofa {dst : Option Tmp} {ty : TypeId} {pos : String} {af : Array Edge} {t : TypeId} {x : Operand} {n : Nat} : regO P ds K Kp nid (⟨dst, .fieldAddr t x n, ty, pos, af, none⟩ :: l) env h = conO P ds K Kp nid (aop P nid env h (.fieldAddr t x n)) dst l env := regK_op rfl
theorem ofd {dst : Option Tmp} {ty : TypeId} {pos : String} {af : Array Edge} {t : TypeId} {x : Operand} {n : Nat} : regO P ds K Kp nid (⟨dst, .field t x n, ty, pos, af, none⟩ :: l) env h = conO P ds K Kp nid (aop P nid env h (.field t x n)) dst l env := regK_op rfl
theorem oia {dst : Option Tmp} {ty : TypeId} {pos : String} {af : Array Edge} {t : TypeId} {x y : Operand} : regO P ds K Kp nid (⟨dst, .indexAddr t x y, ty, pos, af, none⟩ :: l) env h = conO P ds K Kp nid (aop P nid env h (.indexAddr t x y)) dst l env := regK_op rfl
theorem oix {dst : Option Tmp} {ty : TypeId} {pos : String} {af : Array Edge} {t : TypeId} {x y : Operand} : regO P ds K Kp nid (⟨dst, .index t x y, ty, pos, af, none⟩ :: l) env h = conO P ds K Kp nid (aop P nid env h (.index t x y)) dst l env := regK_op rfl
theorem oex {dst : Option Tmp} {ty : TypeId} {pos : String} {af : Array Edge} {x : Operand} {n : Nat} : regO P ds K Kp nid (⟨dst, .extract x n, ty, pos, af, none⟩ :: l) env h = conO P ds K Kp nid (aop P nid env h (.extract x n)) dst l env := regK_op rfl
theorem obi {dst : Option Tmp} {ty : TypeId} {pos : String} {af : Array Edge} {b : Builtin} {xs : Array Operand} {ts : Array TypeId} : regO P ds K Kp nid (⟨dst, .call { callee := .builtin b, args := xs, argTypes := ts }, ty, pos, af, none⟩ :: l) env h = conO P ds K Kp nid (aop P nid env h (.call { callee := .builtin b, args := xs, argTypes := ts })) dst l env := regK_op rfl
theorem ogd {dst : Option Tmp} {op : Op} {ty : TypeId} {pos : String} {af : Array Edge} {j : Nat} {want : Bool} : regO P ds K Kp nid (⟨dst, op, ty, pos, af, some (j, want)⟩ :: l) env h = grdO P ds K Kp nid (yld ds env j want) j want dst op l env h := regK_grd
theorem grdO_tt {dst : Option Tmp} {op : Op} {j : Nat} : grdO P ds K Kp nid (some true) j true dst op l env h = regO P ds K Kp nid (⟨dst, op, 0, "", #[], none⟩ :: l) (setY ds env j true) h := grdK_tt
theorem grdO_ff {dst : Option Tmp} {op : Op} {j : Nat} : grdO P ds K Kp nid (some false) j false dst op l env h = regO P ds K Kp nid (⟨dst, op, 0, "", #[], none⟩ :: l) (setY ds env j false) h := grdK_ff
theorem grdO_tf {dst : Option Tmp} {op : Op} {j : Nat} : grdO P ds K Kp nid (some true) j false dst op l env h = regO P ds K Kp (nid + 1) l (putE (setY ds env j true) dst (.p (.sc (.tuple #[])))) h := grdK_tf
theorem grdO_ft {dst : Option Tmp} {op : Op} {j : Nat} : grdO P ds K Kp nid (some false) j true dst op l env h = regO P ds K Kp (nid + 1) l (putE (setY ds env j false) dst (.p (.sc (.tuple #[])))) h := grdK_ft
theorem grdO_b {dst : Option Tmp} {op : Op} {j : Nat} {want b : Bool} (ht : b = true → grdO P ds K Kp nid (some true) j want dst op l env h) (hf : b = false → grdO P ds K Kp nid (some false) j want dst op l env h) :
    grdO P ds K Kp nid (some b) j want dst op l env h := grdK_b ht hf
theorem grdO_dec {dst : Option Tmp} {op : Op} {j : Nat} {want : Bool} {p : Prop} [Decidable p] (ht : p → grdO P ds K Kp nid (some true) j want dst op l env h) (hf : ¬ p → grdO P ds K Kp nid (some false) j want dst op l env h) :
    grdO P ds K Kp nid (some (decide p)) j want dst op l env h := grdK_dec ht hf
theorem grdO_nd {dst : Option Tmp} {op : Op} {j : Nat} {want : Bool} {p : Prop} [Decidable p] (ht : ¬ p → grdO P ds K Kp nid (some true) j want dst op l env h) (hf : p → grdO P ds K Kp nid (some false) j want dst op l env h) :
    grdO P ds K Kp nid (some (!decide p)) j want dst op l env h := grdK_b (fun e => ht (by simpa using e)) (fun e => hf (by simpa using e))
theorem grdO_nb {dst : Option Tmp} {op : Op} {j : Nat} {want b : Bool} (ht : b = false → grdO P ds K Kp nid (some true) j want dst op l env h) (hf : b = true → grdO P ds K Kp nid (some false) j want dst op l env h) :
    grdO P ds K Kp nid (some (!b)) j want dst op l env h := grdK_b (fun e => ht (by simpa using e)) (fun e => hf (by simpa using e))
@[congr] theorem regO_congr {nid' : Nat} {env' : AEnv} {h' : AHeap} (hn : nid = nid') (he : env = env') (hh : h = h') : regO P ds K Kp nid l env h = regO P ds K Kp nid' l env' h' := by subst hn; subst he; subst hh; rfl
@[congr] theorem conO_congr {nid' : Nat} {r r' : Option (Prop × AV × AHeap)} {dst : Option Tmp} {env' : AEnv} (hn : nid = nid') (hr : r = r') (he : env = env') : conO P ds K Kp nid r dst l env = conO P ds K Kp nid' r' dst l env' := by subst hn; subst he; subst hr; rfl
@[congr] theorem grdO_congr {nid' : Nat} {r r' : Option Bool} {j : Nat} {want : Bool} {dst : Option Tmp} {op : Op} {env' : AEnv} {h' : AHeap} (hn : nid = nid') (hr : r = r') (he : env = env') (hh : h = h') : grdO P ds K Kp nid r j want dst op l env h = grdO P ds K Kp nid' r' j want dst op l env' h' := by subst hn; subst he; subst hr; subst hh; rfl
theorem regO_call {dst : Option Tmp} {ty : TypeId} {pos : String} {af : Array Edge} {fo : Operand} {args : Array Operand} {ats : Array TypeId} {f : FuncId} {caps : List AV} (hf : calleeA env fo = some (f, caps))
    (hc : CallK P f (args.toList.map (ev env) ++ caps) nid h (fun x h' => regO P ds K Kp (nid + 1) l (putE env dst x) h') Kp) :
    regO P ds K Kp nid (⟨dst, .call { callee := .value fo, args, argTypes := ats }, ty, pos, af, none⟩ :: l) env h := regK_call hf hc
end

attribute [push_cast] omv oas opk oal obx obd obs old ost obo ouo ocv omf oms osl ofa ofd oia oix oex obi ogd
attribute [push_cast] regO_nil conO_some onc grdO_tt grdO_ff grdO_tf grdO_ft

section
variable {P : Program} {ds : List (Option Tmp)} {K : AEnv → AHeap → Prop} {nid : Nat} {env : AEnv} {h : AHeap} {l : List Oper}

def regP (P : Program) (ds : List (Option Tmp)) (K : AEnv → AHeap → Prop) (nid : Nat) (l : List Oper) (env : AEnv) (h : AHeap) : Prop := regD P ds K nid (strip l) env h
def conP (P : Program) (ds : List (Option Tmp)) (K : AEnv → AHeap → Prop) (nid : Nat) (r : Option (Prop × AV × AHeap)) (dst : Option Tmp) (l : List Oper) (env : AEnv) : Prop := conD P ds K nid r dst (strip l) env
def grdP (P : Program) (ds : List (Option Tmp)) (K : AEnv → AHeap → Prop) (nid : Nat) (r : Option Bool) (j : Nat) (want : Bool) (dst : Option Tmp) (op : Op) (l : List Oper) (env : AEnv) (h : AHeap) : Prop := grdD P ds K nid r j want dst op (strip l) env h

theorem regP_nil : regP P ds K nid [] env h = K env h := rfl
theorem conP_some {s : Prop} {x : AV} {h' : AHeap} {dst : Option Tmp} : conP P ds K nid (some (s, x, h')) dst l env = (s ∧ regP P ds K (nid + 1) l (putE env dst x) h') := rfl
theorem pmv {dst : Option Tmp} {ty : TypeId} {pos : String} {af : Array Edge} {x : Operand} : regP P ds K nid (⟨dst, .move x, ty, pos, af, none⟩ :: l) env h = conP P ds K nid (aop P nid env h (.move x)) dst l env := regD_op rfl
theorem pas {dst : Option Tmp} {ty : TypeId} {pos : String} {af : Array Edge} {x : Operand} : regP P ds K nid (⟨dst, .assign x, ty, pos, af, none⟩ :: l) env h = conP P ds K nid (aop P nid env h (.assign x)) dst l env := regD_op rfl
theorem ppk {dst : Option Tmp} {ty : TypeId} {pos : String} {af : Array Edge} {c x y : Operand} : regP P ds K nid (⟨dst, .pick c x y, ty, pos, af, none⟩ :: l) env h = conP P ds K nid (aop P nid env h (.pick c x y)) dst l env := regD_op rfl
theorem pal {dst : Option Tmp} {ty : TypeId} {pos : String} {af : Array Edge} {t : TypeId} : regP P ds K nid (⟨dst, .alloc t, ty, pos, af, none⟩ :: l) env h = conP P ds K nid (aop P nid env h (.alloc t)) dst l env := regD_op rfl
theorem pbx {dst : Option Tmp} {ty : TypeId} {pos : String} {af : Array Edge} {t : TypeId} {x : Operand} : regP P ds K nid (⟨dst, .box t x, ty, pos, af, none⟩ :: l) env h = conP P ds K nid (aop P nid env h (.box t x)) dst l env := regD_op rfl
theorem pbd {dst : Option Tmp} {ty : TypeId} {pos : String} {af : Array Edge} {t : TypeId} {ps : Array (Nat × Operand)} : regP P ds K nid (⟨dst, .build t ps, ty, pos, af, none⟩ :: l) env h = conP P ds K nid (aop P nid env h (.build t ps)) dst l env := regD_op rfl
theorem pbs {dst : Option Tmp} {ty : TypeId} {pos : String} {af : Array Edge} {t : TypeId} {n : Nat} {ps : Array (Nat × Operand)} : regP P ds K nid (⟨dst, .buildSlice t n ps, ty, pos, af, none⟩ :: l) env h = conP P ds K nid (aop P nid env h (.buildSlice t n ps)) dst l env := regD_op rfl
theorem pld {dst : Option Tmp} {ty : TypeId} {pos : String} {af : Array Edge} {t : TypeId} {x : Operand} : regP P ds K nid (⟨dst, .load t x, ty, pos, af, none⟩ :: l) env h = conP P ds K nid (aop P nid env h (.load t x)) dst l env := regD_op rfl
theorem pst {dst : Option Tmp} {ty : TypeId} {pos : String} {af : Array Edge} {t : TypeId} {x y : Operand} : regP P ds K nid (⟨dst, .store t x y, ty, pos, af, none⟩ :: l) env h = conP P ds K nid (aop P nid env h (.store t x y)) dst l env := regD_op rfl
theorem pnc {dst : Option Tmp} {ty : TypeId} {pos : String} {af : Array Edge} {x : Operand} : regP P ds K nid (⟨dst, .nilCheck x, ty, pos, af, none⟩ :: l) env h = conP P ds K nid (aop P nid env h (.nilCheck x)) dst l env := regD_op rfl
theorem pbo {dst : Option Tmp} {ty : TypeId} {pos : String} {af : Array Edge} {b : BinOp} {t : TypeId} {x y : Operand} {t' : TypeId} : regP P ds K nid (⟨dst, .binOp b t x y t', ty, pos, af, none⟩ :: l) env h = conP P ds K nid (aop P nid env h (.binOp b t x y t')) dst l env := regD_op rfl
theorem puo {dst : Option Tmp} {ty : TypeId} {pos : String} {af : Array Edge} {u : UnOp} {t : TypeId} {x : Operand} : regP P ds K nid (⟨dst, .unOp u t x, ty, pos, af, none⟩ :: l) env h = conP P ds K nid (aop P nid env h (.unOp u t x)) dst l env := regD_op rfl
theorem pcv {dst : Option Tmp} {ty : TypeId} {pos : String} {af : Array Edge} {t t' : TypeId} {x : Operand} : regP P ds K nid (⟨dst, .convert t t' x, ty, pos, af, none⟩ :: l) env h = conP P ds K nid (aop P nid env h (.convert t t' x)) dst l env := regD_op rfl
theorem pmf {dst : Option Tmp} {ty : TypeId} {pos : String} {af : Array Edge} {fn : Fn} {xs ys : Array Operand} : regP P ds K nid (⟨dst, .makeFunc fn xs ys, ty, pos, af, none⟩ :: l) env h = conP P ds K nid (aop P nid env h (.makeFunc fn xs ys)) dst l env := regD_op rfl
theorem pms {dst : Option Tmp} {ty : TypeId} {pos : String} {af : Array Edge} {t : TypeId} {x y : Operand} : regP P ds K nid (⟨dst, .makeSlice t x y, ty, pos, af, none⟩ :: l) env h = conP P ds K nid (aop P nid env h (.makeSlice t x y)) dst l env := regD_op rfl
theorem psl {dst : Option Tmp} {ty : TypeId} {pos : String} {af : Array Edge} {t : TypeId} {x : Operand} {lo hi mx : Option Operand} : regP P ds K nid (⟨dst, .slice t x lo hi mx, ty, pos, af, none⟩ :: l) env h = conP P ds K nid (aop P nid env h (.slice t x lo hi mx)) dst l env := regD_op rfl
theorem pfa {dst : Option Tmp} {ty : TypeId} {pos : String} {af : Array Edge} {t : TypeId} {x : Operand} {n : Nat} : regP P ds K nid (⟨dst, .fieldAddr t x n, ty, pos, af, none⟩ :: l) env h = conP P ds K nid (aop P nid env h (.fieldAddr t x n)) dst l env := regD_op rfl
theorem pfd {dst : Option Tmp} {ty : TypeId} {pos : String} {af : Array Edge} {t : TypeId} {x : Operand} {n : Nat} : regP P ds K nid (⟨dst, .field t x n, ty, pos, af, none⟩ :: l) env h = conP P ds K nid (aop P nid env h (.field t x n)) dst l env := regD_op rfl
theorem pia {dst : Option Tmp} {ty : TypeId} {pos : String} {af : Array Edge} {t : TypeId} {x y : Operand} : regP P ds K nid (⟨dst, .indexAddr t x y, ty, pos, af, none⟩ :: l) env h = conP P ds K nid (aop P nid env h (.indexAddr t x y)) dst l env := regD_op rfl
theorem pix {dst : Option Tmp} {ty : TypeId} {pos : String} {af : Array Edge} {t : TypeId} {x y : Operand} : regP P ds K nid (⟨dst, .index t x y, ty, pos, af, none⟩ :: l) env h = conP P ds K nid (aop P nid env h (.index t x y)) dst l env := regD_op rfl
theorem pex {dst : Option Tmp} {ty : TypeId} {pos : String} {af : Array Edge} {x : Operand} {n : Nat} : regP P ds K nid (⟨dst, .extract x n, ty, pos, af, none⟩ :: l) env h = conP P ds K nid (aop P nid env h (.extract x n)) dst l env := regD_op rfl
theorem pbi {dst : Option Tmp} {ty : TypeId} {pos : String} {af : Array Edge} {b : Builtin} {xs : Array Operand} {ts : Array TypeId} : regP P ds K nid (⟨dst, .call { callee := .builtin b, args := xs, argTypes := ts }, ty, pos, af, none⟩ :: l) env h = conP P ds K nid (aop P nid env h (.call { callee := .builtin b, args := xs, argTypes := ts })) dst l env := regD_op rfl
theorem pgd {dst : Option Tmp} {op : Op} {ty : TypeId} {pos : String} {af : Array Edge} {j : Nat} {want : Bool} : regP P ds K nid (⟨dst, op, ty, pos, af, some (j, want)⟩ :: l) env h = grdP P ds K nid (yld ds env j want) j want dst op l env h := regD_grd
theorem grdP_tt {dst : Option Tmp} {op : Op} {j : Nat} : grdP P ds K nid (some true) j true dst op l env h = regP P ds K nid (⟨dst, op, 0, "", #[], none⟩ :: l) (setY ds env j true) h := grdD_tt
theorem grdP_ff {dst : Option Tmp} {op : Op} {j : Nat} : grdP P ds K nid (some false) j false dst op l env h = regP P ds K nid (⟨dst, op, 0, "", #[], none⟩ :: l) (setY ds env j false) h := grdD_ff
theorem grdP_tf {dst : Option Tmp} {op : Op} {j : Nat} : grdP P ds K nid (some true) j false dst op l env h = regP P ds K (nid + 1) l (putE (setY ds env j true) dst (.p (.sc (.tuple #[])))) h := grdD_tf
theorem grdP_ft {dst : Option Tmp} {op : Op} {j : Nat} : grdP P ds K nid (some false) j true dst op l env h = regP P ds K (nid + 1) l (putE (setY ds env j false) dst (.p (.sc (.tuple #[])))) h := grdD_ft
theorem grdP_b {dst : Option Tmp} {op : Op} {j : Nat} {want b : Bool} (ht : b = true → grdP P ds K nid (some true) j want dst op l env h) (hf : b = false → grdP P ds K nid (some false) j want dst op l env h) :
    grdP P ds K nid (some b) j want dst op l env h := grdD_b ht hf
theorem grdP_dec {dst : Option Tmp} {op : Op} {j : Nat} {want : Bool} {p : Prop} [Decidable p] (ht : p → grdP P ds K nid (some true) j want dst op l env h) (hf : ¬ p → grdP P ds K nid (some false) j want dst op l env h) :
    grdP P ds K nid (some (decide p)) j want dst op l env h := grdD_dec ht hf
theorem grdP_nd {dst : Option Tmp} {op : Op} {j : Nat} {want : Bool} {p : Prop} [Decidable p] (ht : ¬ p → grdP P ds K nid (some true) j want dst op l env h) (hf : p → grdP P ds K nid (some false) j want dst op l env h) :
    grdP P ds K nid (some (!decide p)) j want dst op l env h := grdD_b (fun e => ht (by simpa using e)) (fun e => hf (by simpa using e))
theorem grdP_nb {dst : Option Tmp} {op : Op} {j : Nat} {want b : Bool} (ht : b = false → grdP P ds K nid (some true) j want dst op l env h) (hf : b = true → grdP P ds K nid (some false) j want dst op l env h) :
    grdP P ds K nid (some (!b)) j want dst op l env h := grdD_b (fun e => ht (by simpa using e)) (fun e => hf (by simpa using e))
@[congr] theorem regP_congr {nid' : Nat} {env' : AEnv} {h' : AHeap} (hn : nid = nid') (he : env = env') (hh : h = h') : regP P ds K nid l env h = regP P ds K nid' l env' h' := by subst hn; subst he; subst hh; rfl
@[congr] theorem conP_congr {nid' : Nat} {r r' : Option (Prop × AV × AHeap)} {dst : Option Tmp} {env' : AEnv} (hn : nid = nid') (hr : r = r') (he : env = env') : conP P ds K nid r dst l env = conP P ds K nid' r' dst l env' := by subst hn; subst he; subst hr; rfl
@[congr] theorem grdP_congr {nid' : Nat} {r r' : Option Bool} {j : Nat} {want : Bool} {dst : Option Tmp} {op : Op} {env' : AEnv} {h' : AHeap} (hn : nid = nid') (hr : r = r') (he : env = env') (hh : h = h') : grdP P ds K nid r j want dst op l env h = grdP P ds K nid' r' j want dst op l env' h' := by subst hn; subst he; subst hr; subst hh; rfl
theorem regP_call {dst : Option Tmp} {ty : TypeId} {pos : String} {af : Array Edge} {fo : Operand} {args : Array Operand} {ats : Array TypeId} {f : FuncId} {caps : List AV} {largs : List AV} {x : AV} (hf : calleeA env fo = some (f, caps)) (hcall : AFun P f largs x) (hc : callable P f = true)
    (hargs : normL (args.toList.map (ev env) ++ caps) = largs) (hids : idsLtL 0 largs) (hx : idsLt 0 x) (hk : regP P ds K (nid + 1) l (putE env dst x) h) :
    regP P ds K nid (⟨dst, .call { callee := .value fo, args, argTypes := ats }, ty, pos, af, none⟩ :: l) env h := regD_call hf hcall hc hargs hids hx hk
end

attribute [push_cast] pmv pas ppk pal pbx pbd pbs pld pst pbo puo pcv pmf pms psl pfa pfd pia pix pex pbi pgd
attribute [push_cast] regP_nil conP_some pnc grdP_tt grdP_ff grdP_tf grdP_ft

section
variable {P : Program} {nt m nb : Nat} {env : AEnv} {h : AHeap} {Q : AQ} {cs : List Code}

theorem cs_reg {id : Nat} {l : List Oper} (hreg : regOK nt l = true)
    (hk : ∀ (K : AEnv → AHeap → Prop) (Kp : AV → Prop), (∀ env h, ACs P nt m cs Q env h (nb + l.length) → K env h) → (∀ x, (∀ env h nb, Q (.panic x) env h nb) → Kp x) → regO P (l.map (·.dst)) K Kp nb l env h) : ACs P nt m (.region id l.toArray false :: cs) Q env h nb :=
  cs_region (ops := l.toArray) hreg (hk _ _ (fun _ _ h => h) (fun _ h => h))

theorem cs_drw {id : Nat} {l : List Oper} (hmix : P.follows .mixedOrders = true) (hreg : regOK nt l = true) (hok : drawOK l (ancs l []) = true)
    (hk : ∀ (K : AEnv → AHeap → Prop), (∀ env h, ACs P nt m cs Q env h (nb + l.length) → K env h) → regP P (l.map (·.dst)) K nb l env h) : ACs P nt m (.region id l.toArray true :: cs) Q env h nb :=
  cs_draw (ops := l.toArray) (ancs l []) hmix hreg hok (hk _ (fun _ _ h => h))

/-- The end of a round. -/
def Again {ι : Type} (m n : Nat) (le : ι → List (Nat × AV)) (lh : ι → List (Nat × Ck)) (I : ι → Prop) (μ : ι → Nat) (i : ι) (env : AEnv) (h : AHeap) (nb : Nat) : Prop :=
  ∃ j, (I j ∧ μ j < μ i) ∧ ∃ ρ, WeakR m ρ n ((lh j).map (·.1)) ∧ AllE ρ n env (le j) ∧ AllH ρ n h (lh j)

theorem cs_lp {c : Code} {ι : Type} (le : ι → List (Nat × AV)) (lh : ι → List (Nat × Ck)) (n : Nat) (I : ι → Prop) (μ : ι → Nat)
    (i0 : ι) (hi0 : I i0) (h0 : ∃ ρ, WeakR m ρ n ((lh i0).map (·.1)) ∧ AllE ρ n env (le i0) ∧ AllH ρ n h (lh i0))
    (round : ∀ i, I i → ACs P nt m [c] (thenA (Again m n le lh I μ i) (thenA (ACs P nt m cs Q) Q)) (mkE (le i)) (mkH (lh i)) n) :
    ACs P nt m (.loop c :: cs) Q env h nb := cs_loop le lh n I μ i0 hi0 h0 round

theorem Again.intro {ι : Type} {n : Nat} {le : ι → List (Nat × AV)} {lh : ι → List (Nat × Ck)} {I : ι → Prop} {μ : ι → Nat} {i : ι} (j : ι) (hj : I j) (hμ : μ j < μ i) (ρ : Nat → Nat) (hr : WeakR m ρ n ((lh j).map (·.1))) (he : AllE ρ n env (le j)) (hh : AllH ρ n h (lh j)) : Again m n le lh I μ i env h nb :=
  ⟨j, ⟨hj, hμ⟩, ρ, hr, he, hh⟩

@[congr] theorem ACs_congr {nb' : Nat} {env' : AEnv} {h' : AHeap} (hn : nb = nb') (he : env = env') (hh : h = h') : ACs P nt m cs Q env h nb = ACs P nt m cs Q env' h' nb' := by subst hn; subst he; subst hh; rfl
@[congr] theorem condK_congr {v v' : AV} {x y : Code} {nb' : Nat} {env' : AEnv} {h' : AHeap} (hv : v = v') (hn : nb = nb') (he : env = env') (hh : h = h') : condK P nt m v x y cs Q env h nb = condK P nt m v' x y cs Q env' h' nb' := by subst hv; subst hn; subst he; subst hh; rfl
@[congr] theorem RetQ_congr {res : List ResultVar} {R : AV → AHeap → Prop} {Rp : AV → Prop} {x : AX} {env' : AEnv} {h' : AHeap} (he : env = env') (hh : h = h') : RetQ P m res R Rp x env h nb = RetQ P m res R Rp x env' h' nb := by subst he; subst hh; rfl
@[congr] theorem Again_congr {ι : Type} {n : Nat} {le : ι → List (Nat × AV)} {lh : ι → List (Nat × Ck)} {I : ι → Prop} {μ : ι → Nat} {i : ι} {env' : AEnv} {h' : AHeap} (he : env = env') (hh : h = h') : Again m n le lh I μ i env h nb = Again m n le lh I μ i env' h' nb := by subst he; subst hh; rfl
@[congr] theorem thenA_congr {K : AEnv → AHeap → Nat → Prop} {x : AX} {nb' : Nat} {env' : AEnv} {h' : AHeap} (hn : nb = nb') (he : env = env') (hh : h = h') : thenA K Q x env h nb = thenA K Q x env' h' nb' := by subst hn; subst he; subst hh; rfl
@[congr] theorem blockA_congr {id : Nat} {x : AX} {nb' : Nat} {env' : AEnv} {h' : AHeap} (hn : nb = nb') (he : env = env') (hh : h = h') : blockA id Q x env h nb = blockA id Q x env' h' nb' := by subst hn; subst he; subst hh; rfl
end

/-- The same where the code ends without a return. -/
theorem end_mem {P : Program} {env : AEnv} {h : AHeap} {nb m : Nat} {res : List ResultVar} {y : AV} {cks' : List (Option Ck)} {Rp : AV → Prop} (r : Nat) (hr : m ≤ r) {l : List AV} (hl : resA P env h res = some l) (hy : AVLe (newAt m r) (m + 1) (oneA l) y) (hi : idsLt (m + 1) y)
    (hh : allL (newAt m r) (m + 1) h 0 cks') (hk : ltAll (m + 1) ((numL 0 cks').map (·.1)) = true := by rfl) : RetQ P m res (fun x h => x = y ∧ h = lO cks') Rp .normal env h nb := by
  have := ret_mem (Rp := Rp) (nb := nb) r hr hl hy hi hh hk
  exact this

/-- The parts of a built value, one by one. -/
def evP (env : AEnv) : List (Nat × Operand) → List (Nat × AV)
  | [] => []
  | (i, x) :: l => (i, ev env x) :: evP env l
theorem evP_eq (env : AEnv) : ∀ l : List (Nat × Operand), l.map (fun q => (q.1, ev env q.2)) = evP env l
  | [] => rfl
  | (i, x) :: l => by simp [evP, evP_eq env l]
theorem aop_build {P : Program} {nid : Nat} {env : AEnv} {h : AHeap} {t : TypeId} {l : List (Nat × Operand)} : aop P nid env h (.build t l.toArray) = match tyf P t, placesT P t with
    | some y, some pl => match afill pl (y.zero.cells.toList.map cst1) (evP env l) with
      | some cells => some (True, .agg cells, h)
      | none => none
    | _, _ => none := by
  simp only [aop, ← evP_eq]
  rfl
attribute [push_cast] evP

attribute [push_cast] List.getD_cons_zero List.getD_cons_succ List.getD_nil implies_true decide_true decide_false and_self and_true true_and false_and or_true true_or false_or or_false Int.ofNat_eq_natCast ge_iff_le gt_iff_lt Int.toNat_natCast Bool.not_true Bool.true_and Bool.and_true Bool.not_false w_i64 w_i32

end Go.Ab

set_option linter.unusedVariables false
set_option linter.unusedSimpArgs false
namespace Go.Ab
open Go

/-- Chunk i was r before; any other bears its number on. -/
def ofL : List (Nat × Nat) → Nat → Nat
  | [], i => i
  | (k, r) :: l, i => if i = k then r else ofL l i

def apartL : List Nat → Bool
  | [] => true
  | x :: l => !l.contains x && apartL l

def checkR (m n : Nat) (l : List (Nat × Nat)) (ks : List Nat) : Bool := decide (m ≤ n) && l.all (fun p => decide (m ≤ p.1)) && apartL (ks.map (ofL l))

theorem ofL_low {m : Nat} : ∀ {l : List (Nat × Nat)}, l.all (fun p => decide (m ≤ p.1)) = true → ∀ i, i < m → ofL l i = i
  | [], _, i, _ => rfl
  | (k, r) :: l, h, i, hi => by
    simp only [List.all_cons, Bool.and_eq_true, decide_eq_true_eq] at h
    rw [ofL, if_neg (by omega)]
    exact ofL_low h.2 i hi

theorem apartL_map {ρ : Nat → Nat} : ∀ {ks : List Nat}, apartL (ks.map ρ) = true → ∀ i j, i ∈ ks → j ∈ ks → i ≠ j → ρ i ≠ ρ j
  | [], _, i, j, hi, _, _ => by simp at hi
  | x :: l, h, i, j, hi, hj, hij => by
    simp only [List.map_cons, apartL, Bool.and_eq_true, Bool.not_eq_true', List.contains_eq_mem, decide_eq_false_iff_not, List.mem_map, not_exists, not_and] at h
    rcases List.mem_cons.1 hi with e1 | h1
    · rcases List.mem_cons.1 hj with e2 | h2
      · exact absurd (e1.trans e2.symm) hij
      · rw [e1]; exact fun e => h.1 j h2 e.symm
    · rcases List.mem_cons.1 hj with e2 | h2
      · rw [e2]; exact h.1 i h1
      · exact apartL_map h.2 i j h1 h2 hij

theorem WeakR.ofL {m n : Nat} {l : List (Nat × Nat)} {ks : List Nat} (hk : checkR m n l ks = true := by rfl) : WeakR m (Ab.ofL l) n ks := by
  simp only [checkR, Bool.and_eq_true, decide_eq_true_eq] at hk
  exact ⟨ofL_low hk.1.2, apartL_map hk.2, hk.1.1⟩

attribute [push_cast] ofL

end Go.Ab
