/- The abstract operations as one function, and why it tells what the model does. No condition. -/
import Derived.Test.YtohmjbgcmccplaaAb10
import Derived.ChangeKeysEq
set_option linter.unusedVariables false
set_option linter.unusedSimpArgs false
namespace Go.Ab
open Go

/-! ### Freezing -/

/-- A chunk of the call's own, taken as memory that is never written again. -/
theorem freeze_wok {E : Env} {h : AHeap} {w : World} {id : Nat} {e : TypeId} {sz : Nat} {rows : List (List PV)} (hw : WOK E h w) (hid : h id = some (.arr e sz rows)) :
    ∃ E' : Env, E'.ch = E.ch ∧ ILe E.I E'.I ∧ WOK E' (upd h id (some (.fz rows))) w ∧ ∀ g o, E'.I g = some o → E.I g = some o ∨ (E.ch id).block = some g := by
  have hk := hw.ck id
  rw [hid] at hk
  obtain ⟨v, e1, xs, hown, hlen, hxs, hones, hnone⟩ := hk
  let E' : Env := { I := fun g => if v.ownBlock = some g then w.heap[g]? else E.I g, ch := E.ch }
  have hI : ILe E.I E'.I := by
    intro g o hg
    show (if v.ownBlock = some g then w.heap[g]? else E.I g) = some o
    by_cases e : v.ownBlock = some g
    · rw [hnone g e] at hg; cases hg
    · rw [if_neg e]; exact hg
  have hle : ELe E E' := ⟨hI, fun id => .inr (.inl rfl)⟩
  have hoth : ∀ i g, i ≠ id → Ck.owned (h i) = true → (E.ch i).block = some g → v.ownBlock ≠ some g := by
    intro i g hi ho hg hv
    exact hw.dist i id g hi ho (by rw [hid]; rfl) hg (by rw [e1, ← ownBlock_eq]; exact hv)
  have hw' : WOK E' (upd h id (some (.fz rows))) w := by
    refine ⟨fun g o hg => ?_, fun i => ?_, fun i j g hij h1 h2 e2 => ?_⟩
    · replace hg : (if v.ownBlock = some g then w.heap[g]? else E.I g) = some o := hg
      by_cases e : v.ownBlock = some g
      · rw [if_pos e] at hg; exact hg
      · rw [if_neg e] at hg; exact hw.imm g o hg
    · by_cases e : i = id
      · subst e
        rw [upd_same]
        refine ⟨v, e1, ?_⟩
        rcases hown.2 with ⟨rfl, hn⟩ | ⟨g, cap, cur, rfl, -, hg, hn, -, hcs, htake⟩
        · have : rows = [] := List.eq_nil_of_length_eq_zero hn
          subst this
          exact .nil
        · have hIg : E'.I g = some (Obj.cells cur e (0, 0)) := by
            show (if (Value.slice (some ⟨g, 0, none⟩) rows.length cap).ownBlock = some g then w.heap[g]? else E.I g) = _
            rw [if_pos (by rfl)]; exact hg
          have hcell : ∀ i j, i < rows.length → j < sz → ∃ u, cur[i * sz + j]? = some u ∧ xs[i * sz + j]? = some u := by
            intro i j hi hj
            have hle : i * sz + sz ≤ rows.length * sz := by
              have := Nat.mul_le_mul_right sz (show i + 1 ≤ rows.length by omega)
              rw [Nat.add_mul] at this; omega
            have hlt : i * sz + j < xs.length := by rw [hown.1]; omega
            obtain ⟨u, hu⟩ : ∃ u, xs[i * sz + j]? = some u := ⟨_, List.getElem?_eq_getElem hlt⟩
            refine ⟨u, ?_, hu⟩
            rw [← htake, List.getElem?_take] at hu
            split at hu
            · simpa using hu
            · cases hu
          refine .fro sz rows _ g 0 cap (fun i j => xs.getD (i * sz + j) undef) (fun _ => rfl) hn hlen (fun i j hi hj => ?_) (fun i j hi hj => ?_) (fun i j r x hr hx => ?_)
          · obtain ⟨u, h1, h2⟩ := hcell i j hi hj
            simp only [icell, hIg, Nat.zero_add, Option.isSome_none, Bool.false_eq_true, if_false, List.getD_eq_getElem?_getD, h1, h2, Option.getD_some]
          · obtain ⟨u, h1, h2⟩ := hcell i j hi hj
            simp only [List.getD_eq_getElem?_getD, h2, Option.getD_some]
            exact hones u (List.mem_of_getElem? h2)
          · obtain ⟨u, hu, hr⟩ := hxs i j r x hr hx
            simp only [List.getD_eq_getElem?_getD, hu, Option.getD_some]
            exact hr.mono hI
      · rw [upd_other _ _ e]
        refine (hw.ck i).keep hle (fun _ _ _ => rfl) (fun h1 g e2 => ?_)
        show (if v.ownBlock = some g then w.heap[g]? else E.I g) = none
        rw [if_neg (hoth i g e h1 e2)]
        exact (hw.ck i).immNone h1 e2
    · have aux : ∀ k, Ck.owned (upd h id (some (.fz rows)) k) = true → Ck.owned (h k) = true := by
        intro k hk
        by_cases e : k = id
        · subst e; rw [upd_same] at hk; cases hk
        · rw [upd_other _ _ e] at hk; exact hk
      exact hw.dist i j g hij (aux i h1) (aux j h2) e2
  refine ⟨E', rfl, hI, hw', fun g o hg => ?_⟩
  replace hg : (if v.ownBlock = some g then w.heap[g]? else E.I g) = some o := hg
  by_cases e : v.ownBlock = some g
  · exact .inr (by rw [e1, ← ownBlock_eq]; exact e)
  · rw [if_neg e] at hg; exact .inl hg

theorem fro_of_fz {E : Env} {h : AHeap} {w : World} {v : Value} {id n : Nat} {rows : List (List PV)} (hw : WOK E h w) (hid : h id = some (.fz rows)) (hr : Rep E (.ref id n) v) (hn : rows.length = n) : Rep E (.p (.fro rows)) v := by
  obtain ⟨A, c, e1, -, hd⟩ := hr.ref_inv
  have hk := hw.ck id
  rw [hid] at hk
  obtain ⟨sv, e2, hI⟩ := hk
  rcases hd with hd | hd
  · rw [hd] at e2
    injection e2 with e2
    rw [e1, e2]
    exact .p hI
  · rw [hd] at e2; cases e2


/-- A literal of a slice: its array is never written again. -/
theorem sim_frozen {P : Program} {nid : Nat} {E : Env} {h : AHeap} {w : World} {o : Oper} {a : Act} {e : TypeId} {sz : Nat} {rows : List (List PV)} (hn : h nid = none) (hs : OpSim P nid E h w o a (.ref nid rows.length) (upd h nid (some (.arr e sz rows)))) :
    OpSim P nid E h w o a (.p (.fro rows)) h := by
  obtain ⟨val, w', E1, hrun, hrep, hst, hw1, hmv⟩ := hs
  obtain ⟨E2, hch, hI, hw2, himm⟩ := freeze_wok hw1 (upd_same _ _ _)
  have hle : ELe E1 E2 := ⟨hI, fun id => .inr (.inl (by rw [hch]))⟩
  have hval := fro_of_fz hw2 (upd_same _ _ _) (hrep.mono hle) rfl
  have hother : ∀ i, i ≠ nid → upd (upd h nid (some (.arr e sz rows))) nid (some (.fz rows)) i = h i := fun i hi => by rw [upd_other _ _ hi, upd_other _ _ hi]
  have hno : ∀ i, Ck.owned (h i) = true → i ≠ nid := fun i hi e => by subst e; rw [hn] at hi; cases hi
  refine ⟨val, w', E2, hrun, hval, ⟨hst.I.trans hI, fun id hid => by rw [hch]; exact hst.ch id hid⟩, ⟨hw2.imm, fun i => ?_, fun i j g hij h1 h2 e1 => ?_⟩, ⟨hmv.size, hmv.frame, fun g ob hg => ?_, fun g hg => ?_, hmv.same⟩⟩
  · by_cases ei : i = nid
    · subst ei; rw [hn]; trivial
    · have := hw2.ck i
      rw [hother i ei] at this
      exact this
  · exact hw2.dist i j g hij (by rw [hother i (hno i h1)]; exact h1) (by rw [hother j (hno j h2)]; exact h2) e1
  · rcases himm g ob hg with h1 | h1
    · exact hmv.imm g ob h1
    · rcases hmv.owned g ⟨nid, by rw [upd_same]; rfl, h1⟩ with h2 | h2
      · exact .inr (.inl h2)
      · exact .inr (.inr h2)
  · obtain ⟨i, h1, h2⟩ := hg
    rw [hch] at h2
    exact hmv.owned g ⟨i, by rw [upd_other _ _ (hno i h1)]; exact h1, h2⟩

/-! ### One operation: under which conditions, its value, the heap behind it -/

def takeS (agg : Bool) (size : Nat) (cells : List AV) (off : Nat) : Option (Prop × AV) :=
  if agg then some (off + size ≤ cells.length, .agg ((cells.drop off).take size)) else match cells[off]? with
    | some x => some (True, x)
    | none => none

theorem takeS_spec {agg : Bool} {size off : Nat} {cells : List AV} {s : Prop} {x : AV} (h : takeS agg size cells off = some (s, x)) (hs : s) : takeT agg size cells off = some x := by
  unfold takeS at h
  unfold takeT
  cases agg with
  | true =>
    simp only [if_true, Option.some.injEq, Prod.mk.injEq] at h
    obtain ⟨h1, h2⟩ := h
    subst h1; subst h2
    simp [hs]
  | false =>
    simp only [Bool.false_eq_true, if_false] at h ⊢
    cases hc : cells[off]? with
    | none => rw [hc] at h; cases h
    | some y => rw [hc] at h; simp at h; rw [h.2]

def loadS (h : AHeap) (y : TyF) : AV → Option (Prop × AV)
  | .ptr id off => match h id with
    | some (.box _ cells) => takeS y.agg y.size cells off
    | _ => none
  | .apt id sz i j => match h id with
    | some (.arr _ sz' rows) => match takeS y.agg y.size ((rows.getD i []).map .p) j with
      | some (s, x) => some (sz = sz' ∧ i < rows.length ∧ s, x)
      | none => none
    | some (.fz rows) => match takeS y.agg y.size ((rows.getD i []).map .p) j with
      | some (s, x) => some ((rows.getD i []).length = sz ∧ i < rows.length ∧ s, x)
      | none => none
    | _ => none
  | .rpt row j => takeS y.agg y.size (row.map .p) j
  | _ => none

theorem loadS_spec {h : AHeap} {y : TyF} {a x : AV} {s : Prop} (hl : loadS h y a = some (s, x)) (hs : s) : loadA h y a = some x := by
  unfold loadS at hl
  unfold loadA
  split at hl
  · split at hl
    · rename_i h1; simp only []; rw [h1]; exact takeS_spec hl hs
    · cases hl
  · rename_i id sz i j
    split at hl
    · rename_i e sz' rows h1
      split at hl
      · rename_i s' x' h2
        simp only [Option.some.injEq, Prod.mk.injEq] at hl
        obtain ⟨e1, e2⟩ := hl
        subst e1; subst e2
        obtain ⟨h3, h4, h5⟩ := hs
        simp only []
        rw [h1]
        simp only [h3, if_true, List.getElem?_eq_getElem h4]
        have : rows.getD i [] = rows[i] := by simp [h4]
        rw [this] at h2
        exact takeS_spec h2 h5
      · cases hl
    · rename_i rows h1
      split at hl
      · rename_i s' x' h2
        simp only [Option.some.injEq, Prod.mk.injEq] at hl
        obtain ⟨e1, e2⟩ := hl
        subst e1; subst e2
        obtain ⟨h3, h4, h5⟩ := hs
        simp only []
        rw [h1]
        have : rows.getD i [] = rows[i] := by simp [h4]
        rw [this] at h2 h3
        simp only [List.getElem?_eq_getElem h4, h3, if_true]
        exact takeS_spec h2 h5
      · cases hl
    · cases hl
  · exact takeS_spec hl hs
  · cases hl

def storeS (h : AHeap) (y : TyF) (x v : AV) : Option (Prop × AHeap) :=
  match x, cellsL v with
  | .ptr id off, some cs => match h id with
    | some (.box t cells) => some (cs.length = y.size ∧ off + cs.length ≤ cells.length, upd h id (some (.box t (cells.take off ++ cs ++ cells.drop (off + cs.length)))))
    | _ => none
  | .apt id sz i j, some cs => match h id, pvs cs with
    | some (.arr e sz' rows), some ps =>
      some (i < rows.length ∧ sz = sz' ∧ ps.length = y.size ∧ j + ps.length ≤ (rows.getD i []).length,
        upd h id (some (.arr e sz' (rows.set i ((rows.getD i []).take j ++ ps ++ (rows.getD i []).drop (j + ps.length))))))
    | _, _ => none
  | _, _ => none

theorem storeS_spec {h h' : AHeap} {y : TyF} {x v : AV} {s : Prop} (hl : storeS h y x v = some (s, h')) (hs : s) : storeA h y x v = some h' := by
  unfold storeS at hl
  unfold storeA
  split at hl
  · rename_i id off cs hcs
    split at hl
    · rename_i t cells hid
      simp only [Option.some.injEq, Prod.mk.injEq] at hl
      obtain ⟨e1, e2⟩ := hl
      subst e1; subst e2
      simp only [hcs, hid]
      rw [if_pos hs]
    · cases hl
  · rename_i id sz i j cs hcs
    split at hl
    · rename_i e sz' rows ps hid hps
      simp only [Option.some.injEq, Prod.mk.injEq] at hl
      obtain ⟨e1, e2⟩ := hl
      subst e1; subst e2
      obtain ⟨h1, h2, h3, h4⟩ := hs
      have : rows.getD i [] = rows[i] := by simp [h1]
      simp only [hcs, hid, hps, List.getElem?_eq_getElem h1]
      rw [this] at h4 ⊢
      rw [if_pos ⟨h2, h3, h4⟩]
    · cases hl
  · cases hl

def abinS (op : BinOp) (k : IntKind) (a b : Int) : Option (Prop × Value) :=
  match op with
  | .quo => some (b ≠ 0, .int k (k.wrap (a.tdiv b)))
  | .rem => some (b ≠ 0, .int k (a.tmod b))
  | op => match abin op k a b with
    | some v => some (True, v)
    | none => none

theorem abinS_spec {op : BinOp} {k : IntKind} {a b : Int} {s : Prop} {v : Value} (h : abinS op k a b = some (s, v)) (hs : s) : abin op k a b = some v := by
  unfold abinS at h
  split at h
  · simp only [Option.some.injEq, Prod.mk.injEq] at h; obtain ⟨e1, e2⟩ := h; subst e1; subst e2; simp [abin, hs]
  · simp only [Option.some.injEq, Prod.mk.injEq] at h; obtain ⟨e1, e2⟩ := h; subst e1; subst e2; simp [abin, hs]
  · split at h
    · rename_i h1
      simp only [Option.some.injEq, Prod.mk.injEq] at h
      rw [h1, h.2]
    · cases h

/-- Two operands of one operator. -/
def boolT (P : Program) (t : TypeId) : Bool := match P.underlying t with
  | some .bool => true
  | _ => false
theorem boolT_spec {P : Program} {t : TypeId} (h : boolT P t = true) : P.underlying t = some .bool := by
  unfold boolT at h
  split at h
  · assumption
  · cases h

/-- Two structs of whole numbers: are they the same? -/
def eqIs : List AV → List AV → Option Bool
  | [], [] => some true
  | .p (.sc (.int k a)) :: xs, .p (.sc (.int k' b)) :: ys => match eqIs xs ys with
    | some r => if k = k' then some (decide (a = b) && r) else none
    | none => none
  | _, _ => none

/-- Fields that are whole numbers, from this cell on. -/
def intFs (P : Program) : List Field → Nat → Bool
  | [], _ => true
  | f :: l, i => decide (f.name ≠ "_") && (decide (f.offset = i) && ((match P.underlying f.type with | some (.int _) => true | _ => false) && intFs P l (i + 1)))

def intStruct (P : Program) (t : TypeId) (n : Nat) : Bool := match P.underlying t with
  | some (.struct fs) => !P.stoodInHeld t && (!P.eqGuardType P.depth t && (decide (fs.size = n) && intFs P fs.toList 0))
  | _ => false

def binS (P : Program) (t : TypeId) (op : BinOp) (x y : AV) : Option (Prop × AV) :=
  match x, y with
  | .p (.sc (.int k m)), .p (.sc (.int k' n)) => match op with
    | .shl => some (0 ≤ n ∧ n < k.bits, .p (.sc (.int k (k.wrap (m * 2 ^ n.toNat)))))
    | .shr => some (0 ≤ n ∧ n < k.bits, .p (.sc (.int k (m.fdiv (2 ^ n.toNat)))))
    | op => match abinS op k m n with
      | some (s, v) => some (k = k' ∧ s, cst1 v)
      | none => none
  | .p (.sc (.string a)), .p (.sc (.string b)) => match op with
    | .eql => some (True, .p (.sc (.bool (decide (a = b)))))
    | .neq => some (True, .p (.sc (.bool (decide (a ≠ b)))))
    | _ => none
  | .p (.sc (.bool a)), .p (.sc (.bool b)) => match op with
    | .eql => some (boolT P t = true, .p (.sc (.bool (decide (a = b)))))
    | .neq => some (boolT P t = true, .p (.sc (.bool (decide (a ≠ b)))))
    | _ => none
  | .agg xs, .agg ys => match op, eqIs xs ys with
    | .eql, some r => some (intStruct P t xs.length = true, .p (.sc (.bool r)))
    | .neq, some r => some (intStruct P t xs.length = true, .p (.sc (.bool (!r))))
    | _, _ => none
  | _, _ => none

def bnd (env : AEnv) (d : Nat) : Option Operand → Option (Prop × Nat)
  | none => some (True, d)
  | some x => match ev env x with
    | .p (.sc (.int _ i)) => some (0 ≤ i, i.toNat)
    | _ => none

theorem bnd_spec {env : AEnv} {d n : Nat} {x : Option Operand} {s : Prop} (h : bnd env d x = some (s, n)) (hs : s) : BndIs env d x n := by
  unfold bnd at h
  split at h
  · simp only [Option.some.injEq, Prod.mk.injEq] at h; rw [← h.2]; exact .none
  · split at h
    · rename_i he
      simp only [Option.some.injEq, Prod.mk.injEq] at h; obtain ⟨e1, e2⟩ := h; subst e1; subst e2
      exact .some he hs
    · cases h

def sliceS (P : Program) (env : AEnv) (t : TypeId) (x : AV) (lo hi : Option Operand) : Option (Prop × AV) :=
  match x with
  | .p (.fro rows) => match slE P t with
    | some e => match tyf P e, bnd env 0 lo, bnd env rows.length hi with
      | some y, some (s1, l), some (s2, k) => some (s1 ∧ s2 ∧ l ≤ k ∧ k ≤ rows.length ∧ ∀ r, r ∈ rows → r.length = y.size, .p (.fro ((rows.drop l).take (k - l))))
      | _, _, _ => none
    | none => none
  | .p (.sc (.string s)) => match bnd env 0 lo, bnd env s.size hi with
    | some (s1, l), some (s2, k) => some (strT P t = true ∧ s1 ∧ s2 ∧ l ≤ k ∧ k ≤ s.size, .p (.sc (.string (s.extract l k))))
    | _, _ => none
  | _ => none

def idxS (P : Program) (t : TypeId) (x ix : AV) : Option (Prop × AV) :=
  match ix with
  | .p (.sc (.int _ i)) => match slE P t with
    | some e => match tyf P e with
      | some y => match x with
        | .p (.fro rows) => some ((0 ≤ i ∧ i < rows.length) ∧ (rows.getD i.toNat []).length = y.size, .rpt (rows.getD i.toNat []) 0)
        | .ref id n => some (0 ≤ i ∧ i < n, .apt id y.size i.toNat 0)
        | _ => none
      | none => none
    | none => match arE P t with
      | some (n, e) => match tyf P e with
        | some y => match offA (i.toNat * y.size) x with
          | some r => some (0 ≤ i ∧ i < n, r)
          | none => none
        | none => none
      | none => none
  | _ => none

def indexS (P : Program) (t : TypeId) (x ix : AV) : Option (Prop × AV) :=
  match ix, x with
  | .p (.sc (.int _ i)), .agg xs => match arE P t with
    | some (n, e) => match tyf P e with
      | some y => match takeS y.agg y.size xs (i.toNat * y.size) with
        | some (s, r) => some ((0 ≤ i ∧ i < n) ∧ s, r)
        | none => none
      | none => none
    | none => none
  | _, _ => none

def builtinS (P : Program) (nid : Nat) (env : AEnv) (h : AHeap) (b : Builtin) (args : List Operand) (ats : List TypeId) : Option (Prop × AV × AHeap) :=
  match b, args, ats with
  | .len, [x], [t] => match ev env x with
    | .p (.sc (.string s)) => some (strT P t = true, .p (.sc (.int .i64 s.size)), h)
    | .nil => some ((slE P t).isSome = true, .p (.sc (.int .i64 0)), h)
    | .p (.fro rows) => some ((slE P t).isSome = true, .p (.sc (.int .i64 rows.length)), h)
    | .ref _ n => some ((slE P t).isSome = true, .p (.sc (.int .i64 n)), h)
    | _ => none
  | .min, [x, y], _ => match ev env x, ev env y with
    | .p (.sc (.int k m)), .p (.sc (.int _ n)) => some (True, .p (.sc (.int k (if n < m then n else m))), h)
    | _, _ => none
  | .max, [x, y], _ => match ev env x, ev env y with
    | .p (.sc (.int k m)), .p (.sc (.int _ n)) => some (True, .p (.sc (.int k (if n > m then n else m))), h)
    | _, _ => none
  | .append, [s, x], [t, t'] => match slE P t with
    | some e => match tyf P e, srcRows h (ev env x) with
      | some y, some rows2 => match ev env s with
        | .nil => some (t = t' ∧ y.zero.cells.size = y.size ∧ 0 < y.size ∧ (∀ r, r ∈ rows2 → r.length = y.size) ∧ rows2.length * y.bytes ≤ 140737488355328 ∧ rows2.length ≤ maxLen,
            .ref nid rows2.length, upd h nid (some (.arr e y.size rows2)))
        | .ref id n => match h id with
          | some (.arr e' sz rows) => some (t = t' ∧ e' = e ∧ sz = y.size ∧ rows.length = n ∧ y.zero.cells.size = y.size ∧ 0 < y.size ∧ (∀ r, r ∈ rows2 → r.length = y.size) ∧ (n + rows2.length) * y.bytes ≤ 140737488355328 ∧ n + rows2.length ≤ maxLen,
              .ref nid (n + rows2.length), upd (upd h id none) nid (some (.arr e y.size (rows ++ rows2))))
          | _ => none
        | _ => none
      | _, _ => none
    | none => none
  | _, _, _ => none

def aop (P : Program) (nid : Nat) (env : AEnv) (h : AHeap) : Op → Option (Prop × AV × AHeap)
  | .move x => some (True, ev env x, h)
  | .assign x => some (True, ev env x, h)
  | .pick c a b => match ev env c with
    | .p (.sc (.bool t)) => some (True, if t then ev env a else ev env b, h)
    | _ => none
  | .alloc t => match tyf P t with
    | some y => some (True, .ptr nid 0, upd h nid (some (.box t (y.zero.cells.toList.map cst1))))
    | none => none
  | .box t x => match cellsL (ev env x) with
    | some cs => some (True, .ptr nid 0, upd h nid (some (.box t cs)))
    | none => none
  | .build t parts => match tyf P t, placesT P t with
    | some y, some pl => match afill pl (y.zero.cells.toList.map cst1) (parts.toList.map fun q => (q.1, ev env q.2)) with
      | some cells => some (True, .agg cells, h)
      | none => none
    | _, _ => none
  | .buildSlice t len parts => match slE P t with
    | some e => match tyf P e, rowsOf env 0 parts.toList with
      | some y, some rows => some ((∀ r, r ∈ rows → r.length = y.size) ∧ len = rows.length ∧ len * y.size ≠ 0 ∧ len * y.size ≤ 2 ^ 24, .p (.fro rows), h)
      | _, _ => none
    | none => none
  | .load t x => match tyf P t with
    | some y => match loadS h y (ev env x) with
      | some (s, r) => some (s, r, h)
      | none => none
    | none => none
  | .store t x v => match tyf P t with
    | some y => match storeS h y (ev env x) (ev env v) with
      | some (s, h') => some (s, .any, h')
      | none => none
    | none => none
  | .nilCheck x => if isPtr (ev env x) then some (True, ev env x, h) else none
  | .binOp op t x y _ => match binS P t op (ev env x) (ev env y) with
    | some (s, r) => some (s, r, h)
    | none => none
  | .unOp op _ x => match op, ev env x with
    | .not, .p (.sc (.bool b)) => some (True, .p (.sc (.bool !b)), h)
    | .neg, .p (.sc (.int k n)) => some (True, .p (.sc (.int k (k.wrap (-n)))), h)
    | _, _ => none
  | .convert s d x => match intT P s, intT P d, ev env x with
    | some _, some k, .p (.sc (.int _ n)) => some (True, .p (.sc (.int k (k.wrap n))), h)
    | _, _, _ => none
  | .fieldAddr t x f => match fOff P t f with
    | some (n, _, _) => match offA n (ev env x) with
      | some r => some (True, r, h)
      | none => none
    | none => none
  | .field t x f => match fOff P t f, ev env x with
    | some (n, sz, b), .agg xs => match takeS b sz xs n with
      | some (s, r) => some (s, r, h)
      | none => none
    | _, _ => none
  | .indexAddr t x ix => match idxS P t (ev env x) (ev env ix) with
    | some (s, r) => some (s, r, h)
    | none => none
  | .index t x ix => match indexS P t (ev env x) (ev env ix) with
    | some (s, r) => some (s, r, h)
    | none => none
  | .slice t x lo hi mx => match mx with
    | none => match sliceS P env t (ev env x) lo hi with
      | some (s, r) => some (s, r, h)
      | none => none
    | some _ => none
  | .extract x i => match ev env x with
    | .tup xs => match xs[i]? with
      | some y => some (True, y, h)
      | none => none
    | _ => none
  | .makeFunc fn first caps => match fn, first.toList with
    | .func f, [] => some (True, .fn f (caps.toList.map (ev env)), h)
    | _, _ => none
  | .makeSlice t l c => match slE P t with
    | some e => match tyf P e, ev env l, ev env c with
      | some y, .p (.sc (.int _ n)), .p (.sc (.int _ n')) => match pvs (y.zero.cells.toList.map cst1) with
        | some zs => some (n = n' ∧ 0 ≤ n ∧ y.bytes * n.toNat ≤ 281474976710656 ∧ n.toNat ≤ maxLen ∧ y.zero.cells.size = y.size ∧ y.zero.cells.all (·.oneCell') = true,
            .ref nid n.toNat, upd h nid (some (.arr e y.size (List.replicate n.toNat zs))))
        | none => none
      | _, _, _ => none
    | none => none
  | .call c => match c.callee with
    | .builtin b => builtinS P nid env h b c.args.toList c.argTypes.toList
    | _ => none
  | _ => none

theorem str_eq {a b : ByteArray} : (a.toList == b.toList) = decide (a = b) := by
  have : a.toList = b.toList ↔ a = b := by
    constructor
    · intro h
      have h1 : a.data.toList = b.data.toList := by simpa [ByteArray.toList_eq] using h
      exact ByteArray.ext (Array.ext' h1)
    · intro h; rw [h]
  by_cases h : a = b
  · simp [h]
  · have : a.toList ≠ b.toList := fun e => h (this.1 e)
    simp [h, this]

section
variable {P : Program} {nid : Nat} {E : Env} {h h' : AHeap} {w : World} {o : Oper} {a : Act} {env : AEnv} {s : Prop} {r : AV}

theorem sim_str {op : BinOp} {t t' : TypeId} {x y : Operand} {u v : ByteArray} (hw : WOK E h w) (henv : ∀ k, Rep E (env k) (a.tmps.getD k undef)) (ho : o.op = .binOp op t x y t') (hx : ev env x = .p (.sc (.string u))) (hy : ev env y = .p (.sc (.string v))) :
    (op = .eql → OpSim P nid E h w o a (.p (.sc (.bool (decide (u = v))))) h) ∧ (op = .neq → OpSim P nid E h w o a (.p (.sc (.bool (decide (u ≠ v))))) h) := by
  refine ⟨fun e => ?_, fun e => ?_⟩ <;> subst e
  · refine sim_binOp hw henv ho hx hy (fun cs e => by cases e) (fun e => by cases e) (r := .bool (decide (u = v))) ?_
    simp only [Go.binOp, Op.stringOp, str_eq]
    rfl
  · refine sim_binOp hw henv ho hx hy (fun cs e => by cases e) (fun e => by cases e) (r := .bool (decide (u ≠ v))) ?_
    simp only [Go.binOp, Op.stringOp, str_eq]
    have : (!decide (u = v)) = decide (u ≠ v) := by by_cases h : u = v <;> simp [h]
    rw [this]
    rfl

theorem sim_bool {op : BinOp} {t t' : TypeId} {x y : Operand} {u v : Bool} (hw : WOK E h w) (henv : ∀ k, Rep E (env k) (a.tmps.getD k undef)) (ho : o.op = .binOp op t x y t') (hx : ev env x = .p (.sc (.bool u))) (hy : ev env y = .p (.sc (.bool v))) (ht : P.underlying t = some .bool) :
    (op = .eql → OpSim P nid E h w o a (.p (.sc (.bool (decide (u = v))))) h) ∧ (op = .neq → OpSim P nid E h w o a (.p (.sc (.bool (decide (u ≠ v))))) h) := by
  refine ⟨fun e => ?_, fun e => ?_⟩ <;> subst e
  · refine sim_binOp hw henv ho hx hy (fun cs e => by cases e) (fun e => by cases e) (r := .bool (decide (u = v))) ?_
    simp only [Go.binOp, Sem.run_bind, run_equal_bool w t u v ht, Result.andThen_ok, Sem.run_pure]
    cases u <;> cases v <;> rfl
  · refine sim_binOp hw henv ho hx hy (fun cs e => by cases e) (fun e => by cases e) (r := .bool (decide (u ≠ v))) ?_
    simp only [Go.binOp, Sem.run_bind, run_equal_bool w t u v ht, Result.andThen_ok, Sem.run_pure]
    cases u <;> cases v <;> rfl

theorem run_eqInts {P : Program} {w : World} {d : Nat} {us vs : Array Value} : ∀ (fs : List Field) (i : Nat) (xs ys : List AV) (r : Bool), intFs P fs i = true → fs.length = xs.length → eqIs xs ys = some r →
    (∀ (j : Nat) (k : IntKind) (a : Int), xs[j]? = some (.p (.sc (.int k a))) → us[i + j]? = some (.int k a)) → (∀ (j : Nat) (k : IntKind) (a : Int), ys[j]? = some (.p (.sc (.int k a))) → vs[i + j]? = some (.int k a)) →
    (Op.eqFields (d + 1) us vs fs).run P w = .ok r w
  | [], i, xs, ys, r, _, hl, he, _, _ => by
    have : xs = [] := List.eq_nil_of_length_eq_zero hl.symm
    subst this
    cases ys with
    | nil => injection he with he; subst he; rfl
    | cons y ys => cases he
  | f :: fs, i, xs, ys, r, hf, hl, he, hx, hy => by
    cases xs with
    | nil => cases hl
    | cons x xs =>
      unfold eqIs at he
      split at he
      · cases ‹_ :: _ = []›
      · rename_i k a xs' k' b ys' e1
        injection e1 with e1 e2
        subst e1; subst e2
        split at he
        · rename_i r' hr'
          split at he
          · rename_i hk
            subst hk
            injection he with he
            unfold intFs at hf
            simp only [Bool.and_eq_true, decide_eq_true_eq] at hf
            obtain ⟨h1, h2, h3, h4⟩ := hf
            have hu : ∃ q, P.underlying f.type = some (.int q) := by
              split at h3
              · exact ⟨_, ‹_›⟩
              · cases h3
            obtain ⟨q, hu⟩ := hu
            have hpk : P.plainKey f.type = true := by unfold Program.plainKey; rw [hu]
            have p1 := run_part_plain (P := P) (w := w) hpk (hx 0 k a rfl)
            have p2 := run_part_plain (P := P) (w := w) hpk (hy 0 k b rfl)
            have ih := run_eqInts (P := P) (w := w) (d := d) (us := us) (vs := vs) fs (i + 1) xs ys' r' h4 (by simpa using hl) hr'
              (fun j k a h => by have := hx (j + 1) k a h; rwa [show i + (j + 1) = i + 1 + j by omega] at this) (fun j k a h => by have := hy (j + 1) k a h; rwa [show i + (j + 1) = i + 1 + j by omega] at this)
            rw [Nat.add_zero] at p1 p2
            simp only [Op.eqFields, h1, ne_eq, not_false_eq_true, if_true, Sem.run_bind, h2, p1, p2, Result.andThen_ok, run_equalIn_int w d f.type k q a b hu]
            rw [← he]
            by_cases hab : a = b
            · subst hab
              simp only [beq_self_eq_true, Bool.not_true, Bool.false_eq_true, if_false, decide_true, Bool.true_and]
              exact ih
            · have : (a == b) = false := by simpa using hab
              simp only [this, Bool.not_false, if_true, decide_eq_false hab, Bool.false_and]
              rfl
          · cases he
        · cases he
      · cases he

theorem sim_aggEq {op : BinOp} {t t' : TypeId} {x y : Operand} {xs ys : List AV} {r : Bool} (hw : WOK E h w) (henv : ∀ k, Rep E (env k) (a.tmps.getD k undef)) (ho : o.op = .binOp op t x y t') (hx : ev env x = .agg xs) (hy : ev env y = .agg ys)
    (hr : eqIs xs ys = some r) (hs : intStruct P t xs.length = true) : (op = .eql → OpSim P nid E h w o a (.p (.sc (.bool r))) h) ∧ (op = .neq → OpSim P nid E h w o a (.p (.sc (.bool (!r)))) h) := by
  have hu := Rep.ev henv x
  have hv := Rep.ev henv y
  rw [hx] at hu
  rw [hy] at hv
  generalize e1 : a.eval x = u at hu
  generalize e2 : a.eval y = v at hv
  cases hu with
  | agg us hsu fu hfu hru =>
    cases hv with
    | agg vs hsv fv hfv hrv =>
      unfold intStruct at hs
      split at hs
      · rename_i fs hfs
        simp only [Bool.and_eq_true, Bool.not_eq_true', decide_eq_true_eq] at hs
        obtain ⟨s1, s2, s3, s4⟩ := hs
        have hff : P.fieldsOf t = fs := by unfold Program.fieldsOf; rw [hfs]
        have hrun := run_eqInts (P := P) (w := w) (d := 9998) (us := us) (vs := vs) fs.toList 0 xs ys r s4 (by simpa using s3) hr
          (fun j k z hj => by
            have h1 := hfu j (List.getElem?_eq_some_iff.1 hj).1
            have h2 := (hru j _ hj).sc_inv
            rw [Nat.zero_add, h1, h2])
          (fun j k z hj => by
            have h1 := hfv j (List.getElem?_eq_some_iff.1 hj).1
            have h2 := (hrv j _ hj).sc_inv
            rw [Nat.zero_add, h1, h2])
        have heq : (Op.equalIn 10000 t (.agg us) (.agg vs)).run P w = .ok r w := by
          rw [run_equalIn_struct w 9999 t us vs (by rw [hff]; exact hfs) s1, hff]
          exact hrun
        refine ⟨fun e => ?_, fun e => ?_⟩ <;> subst e
        · refine OpSim.pure hw (val := .bool r) ?_ (.p (.sc _))
          simp [execOp, ho, e1, e2, run_eqGuard_agg w .eql t x y us vs s2, run_eql_struct w t us vs, heq]
        · refine OpSim.pure hw (val := .bool (!r)) ?_ (.p (.sc _))
          simp [execOp, ho, e1, e2, run_eqGuard_agg w .neq t x y us vs s2, run_neq_struct w t us vs, heq]
      · cases hs

theorem aop_sim (hw : WOK E h w) (henv : ∀ k, Rep E (env k) (a.tmps.getD k undef)) (hu : E.ch nid = .unborn) (ha : aop P nid env h o.op = some (s, r, h')) (hs : s) : OpSim P nid E h w o a r h' := by
  generalize hop : o.op = op at ha
  cases op <;> simp only [aop] at ha <;> try (cases ha; done)
  case move x =>
    injection ha with ha; injection ha with h1 h2; injection h2 with h2 h3; subst h2; subst h3
    exact sim_move hw henv (.inl hop)
  case assign x =>
    injection ha with ha; injection ha with h1 h2; injection h2 with h2 h3; subst h2; subst h3
    exact sim_move hw henv (.inr hop)
  case pick c x y =>
    split at ha
    · rename_i t hc
      injection ha with ha; injection ha with h1 h2; injection h2 with h2 h3; subst h2; subst h3
      exact sim_pick hw henv hop hc
    · cases ha
  case alloc t =>
    split at ha
    · rename_i y hy
      injection ha with ha; injection ha with h1 h2; injection h2 with h2 h3; subst h2; subst h3
      exact sim_alloc hw hu hop hy
    · cases ha
  case box t x =>
    split at ha
    · rename_i cs hc
      injection ha with ha; injection ha with h1 h2; injection h2 with h2 h3; subst h2; subst h3
      exact sim_box hw henv hu hop hc
    · cases ha
  case build t parts =>
    split at ha
    · rename_i y pl hy hpl
      split at ha
      · rename_i cells hc
        injection ha with ha; injection ha with h1 h2; injection h2 with h2 h3; subst h2; subst h3
        exact sim_build hw henv hop hy hpl hc
      · cases ha
    · cases ha
  case buildSlice t len parts =>
    split at ha
    · rename_i e he
      split at ha
      · rename_i y rows hy hr
        injection ha with ha; injection ha with h1 h2; injection h2 with h2 h3; subst h1; subst h2; subst h3
        obtain ⟨q1, q2, q3, q4⟩ := hs
        exact sim_frozen (by
          cases hh : h nid with
          | none => rfl
          | some ck => have := hw.ck nid; rw [hh, hu] at this; exact absurd rfl this.born) (sim_buildSlice hw henv hu hop he hy hr q1 q2 q3 q4)
      · cases ha
    · cases ha
  case load t x =>
    split at ha
    · rename_i y hy
      split at ha
      · rename_i s' r' hl
        injection ha with ha; injection ha with h1 h2; injection h2 with h2 h3; subst h1; subst h2; subst h3
        exact sim_load hw henv hop hy (loadS_spec hl hs)
      · cases ha
    · cases ha
  case store t x v =>
    split at ha
    · rename_i y hy
      split at ha
      · rename_i s' r' hl
        injection ha with ha; injection ha with h1 h2; injection h2 with h2 h3; subst h1; subst h2; subst h3
        exact sim_store hw henv hop hy (storeS_spec hl hs)
      · cases ha
    · cases ha
  case nilCheck x =>
    split at ha
    · rename_i hp
      injection ha with ha; injection ha with h1 h2; injection h2 with h2 h3; subst h2; subst h3
      exact sim_nilCheck hw henv hop hp
    · cases ha
  case binOp op t x y t' =>
    split at ha
    · rename_i s' r' hb
      injection ha with ha; injection ha with h1 h2; injection h2 with h2 h3; subst h1; subst h2; subst h3
      unfold binS at hb
      split at hb
      · rename_i k m k' n hx hy
        have e1 := (hx ▸ Rep.ev henv x : Rep E _ _).sc_inv
        have e2 := (hy ▸ Rep.ev henv y : Rep E _ _).sc_inv
        split at hb
        · injection hb with hb; injection hb with h1 h2; subst h1; subst h2
          refine sim_binOp hw henv hop hx hy (fun cs e => by cases e) (fun e => by cases e) (r := .int k (k.wrap (m * 2 ^ n.toNat))) ?_
          have hm : min n.toNat k.bits = n.toNat := Nat.min_eq_left (by omega)
          simp [Go.binOp, Op.shift, Int.not_lt.2 hs.1, hm]
        · injection hb with hb; injection hb with h1 h2; subst h1; subst h2
          refine sim_binOp hw henv hop hx hy (fun cs e => by cases e) (fun e => by cases e) (r := .int k (m.fdiv (2 ^ n.toNat))) ?_
          have hm : min n.toNat k.bits = n.toNat := Nat.min_eq_left (by omega)
          simp [Go.binOp, Op.shift, Int.not_lt.2 hs.1, hm]
        · split at hb
          · rename_i s'' v hab
            injection hb with hb; injection hb with h1 h2; subst h1; subst h2
            obtain ⟨hk, hs⟩ := hs
            subst hk
            exact sim_bin hw henv hop hx hy (abinS_spec hab hs)
          · cases hb
      · rename_i u v hx hy
        have hstr := sim_str (P := P) (nid := nid) (o := o) (t := t) (t' := t') (op := op) hw henv hop hx hy
        split at hb
        · injection hb with hb; injection hb with h1 h2; subst h2; exact hstr.1 rfl
        · injection hb with hb; injection hb with h1 h2; subst h2; exact hstr.2 rfl
        · cases hb
      · rename_i u v hx hy
        have hbl := fun ht => sim_bool (P := P) (nid := nid) (o := o) (t := t) (t' := t') (op := op) hw henv hop hx hy ht
        split at hb
        · injection hb with hb; injection hb with h1 h2; subst h1; subst h2; exact (hbl (boolT_spec hs)).1 rfl
        · injection hb with hb; injection hb with h1 h2; subst h1; subst h2; exact (hbl (boolT_spec hs)).2 rfl
        · cases hb
      · rename_i xs ys hx hy
        have hag := fun r hr hs => sim_aggEq (P := P) (nid := nid) (o := o) (t := t) (t' := t') (op := op) (r := r) hw henv hop hx hy hr hs
        split at hb
        · rename_i r hr
          injection hb with hb; injection hb with h1 h2; subst h1; subst h2; exact (hag r hr hs).1 rfl
        · rename_i r hr
          injection hb with hb; injection hb with h1 h2; subst h1; subst h2; exact (hag r hr hs).2 rfl
        · cases hb
      · cases hb
    · cases ha
  case unOp op t x =>
    split at ha
    · rename_i b hx
      injection ha with ha; injection ha with h1 h2; injection h2 with h2 h3; subst h2; subst h3
      exact sim_not hw henv hop hx
    · rename_i k n hx
      injection ha with ha; injection ha with h1 h2; injection h2 with h2 h3; subst h2; subst h3
      exact sim_neg hw henv hop hx
    · cases ha
  case convert s d x =>
    split at ha
    · rename_i k1 k k2 n h1 h2 hx
      injection ha with ha; injection ha with g1 g2; injection g2 with g2 g3; subst g2; subst g3
      exact sim_convInt hw henv hop h1 h2 hx
    · cases ha
  case fieldAddr t x f =>
    split at ha
    · rename_i n sz b hf
      split at ha
      · rename_i r' ho
        injection ha with ha; injection ha with g1 g2; injection g2 with g2 g3; subst g2; subst g3
        exact sim_fieldAddr hw henv hop hf ho
      · cases ha
    · cases ha
  case field t x f =>
    split at ha
    · rename_i n sz b xs hf hx
      split at ha
      · rename_i s' r' ho
        injection ha with ha; injection ha with g1 g2; injection g2 with g2 g3; subst g1; subst g2; subst g3
        exact sim_field hw henv hop hf hx (takeS_spec ho hs)
      · cases ha
    · cases ha
  case indexAddr t x ix =>
    split at ha
    · rename_i s' r' hi
      injection ha with ha; injection ha with g1 g2; injection g2 with g2 g3; subst g1; subst g2; subst g3
      unfold idxS at hi
      split at hi
      · rename_i k i hix
        split at hi
        · rename_i e he
          split at hi
          · rename_i y hy
            split at hi
            · rename_i rows hx
              injection hi with hi; injection hi with g1 g2; subst g1; subst g2
              obtain ⟨⟨q1, q2⟩, q3⟩ := hs
              have hlt : i.toNat < rows.length := by omega
              have hrow : rows[i.toNat]? = some (rows.getD i.toNat []) := by simp [hlt]
              exact sim_idx_fro hw henv hop he hy hx hix q1 hrow q3
            · rename_i id n hx
              injection hi with hi; injection hi with g1 g2; subst g1; subst g2
              exact sim_idx_ref hw henv hop he hy hx hix hs.1 hs.2
            · cases hi
          · cases hi
        · split at hi
          · rename_i n e he
            split at hi
            · rename_i y hy
              split at hi
              · rename_i r' ho
                injection hi with hi; injection hi with g1 g2; subst g1; subst g2
                exact sim_idx_arr hw henv hop he hy hix hs.1 hs.2 ho
              · cases hi
            · cases hi
          · cases hi
      · cases hi
    · cases ha
  case index t x ix =>
    split at ha
    · rename_i s' r' hi
      injection ha with ha; injection ha with g1 g2; injection g2 with g2 g3; subst g1; subst g2; subst g3
      unfold indexS at hi
      split at hi
      · rename_i k i xs hix hx
        split at hi
        · rename_i n e he
          split at hi
          · rename_i y hy
            split at hi
            · rename_i s' r' ho
              injection hi with hi; injection hi with g1 g2; subst g1; subst g2
              exact sim_index_arr hw henv hop he hy hix hs.1.1 hs.1.2 hx (takeS_spec ho hs.2)
            · cases hi
          · cases hi
        · cases hi
      · cases hi
    · cases ha
  case slice t x lo hi mx =>
    split at ha
    · split at ha
      · rename_i s' r' hsl
        injection ha with ha; injection ha with g1 g2; injection g2 with g2 g3; subst g1; subst g2; subst g3
        unfold sliceS at hsl
        split at hsl
        · rename_i rows hx
          split at hsl
          · rename_i e he
            split at hsl
            · rename_i y s1 l s2 k hy hb1 hb2
              injection hsl with hsl; injection hsl with g1 g2; subst g1; subst g2
              obtain ⟨q1, q2, q3, q4, q5⟩ := hs
              exact sim_slice_fro hw henv hop he hy hx (bnd_spec hb1 q1) (bnd_spec hb2 q2) q3 q4 q5
            · cases hsl
          · cases hsl
        · rename_i str hx
          split at hsl
          · rename_i s1 l s2 k hb1 hb2
            injection hsl with hsl; injection hsl with g1 g2; subst g1; subst g2
            obtain ⟨q0, q1, q2, q3, q4⟩ := hs
            exact sim_slice_str hw henv hop q0 hx (bnd_spec hb1 q1) (bnd_spec hb2 q2) q3 q4
          · cases hsl
        · cases hsl
      · cases ha
    · cases ha
  case extract x i =>
    split at ha
    · rename_i xs hx
      split at ha
      · rename_i y hy
        injection ha with ha; injection ha with g1 g2; injection g2 with g2 g3; subst g2; subst g3
        exact sim_extract hw henv hop hx hy
      · cases ha
    · cases ha
  case makeFunc fn first caps =>
    split at ha
    · rename_i f hfirst
      injection ha with ha; injection ha with g1 g2; injection g2 with g2 g3; subst g2; subst g3
      have : first = #[] := Array.toList_eq_nil_iff.1 hfirst
      subst this
      exact sim_makeFunc hw henv hop
    · cases ha
  case makeSlice t l c =>
    split at ha
    · rename_i e he
      split at ha
      · rename_i y k n k' n' hy hl hc
        split at ha
        · rename_i zs hz
          injection ha with ha; injection ha with g1 g2; injection g2 with g2 g3; subst g1; subst g2; subst g3
          obtain ⟨q0, q1, q2, q3, q4, q5⟩ := hs
          subst q0
          exact sim_makeSlice hw henv hu hop he hy hl hc q1 q2 q3 hz q4 q5
        · cases ha
      · cases ha
    · cases ha
  case call c =>
    obtain ⟨callee, ⟨args⟩, ⟨ats⟩⟩ := c
    cases callee <;> simp only [] at ha <;> try (cases ha; done)
    rename_i b
    unfold builtinS at ha
    split at ha
    · rename_i x t
      have hsl : ∀ n, (slE P t).isSome = true → lenA (ev env x) = some n → (∀ s, ev env x ≠ .p (.sc (.string s))) → OpSim P nid E h w o a (.p (.sc (.int .i64 n))) h := by
        intro n h1 h2 h3
        obtain ⟨e, he⟩ := Option.isSome_iff_exists.1 h1
        have hu := slE_spec he
        exact sim_len hw henv hop (by simp [lenT, hu]) h2 ⟨fun ⟨s, e⟩ => absurd e (h3 s), fun e => by rw [hu] at e; cases e⟩
      split at ha
      · rename_i str hstr
        injection ha with ha; injection ha with g1 g2; injection g2 with g2 g3; subst g1; subst g2; subst g3
        have hu : P.underlying t = some .string := by
          unfold strT at hs
          split at hs
          · assumption
          · cases hs
        exact sim_len hw henv hop (by simp [lenT, hu]) (by rw [hstr]; rfl) ⟨fun _ => hu, fun _ => ⟨str, hstr⟩⟩
      · rename_i hx
        injection ha with ha; injection ha with g1 g2; injection g2 with g2 g3; subst g1; subst g2; subst g3
        exact hsl 0 hs (by rw [hx]; rfl) (fun s e => by rw [hx] at e; cases e)
      · rename_i rows hx
        injection ha with ha; injection ha with g1 g2; injection g2 with g2 g3; subst g1; subst g2; subst g3
        exact hsl _ hs (by rw [hx]; rfl) (fun s e => by rw [hx] at e; cases e)
      · rename_i id n hx
        injection ha with ha; injection ha with g1 g2; injection g2 with g2 g3; subst g1; subst g2; subst g3
        exact hsl _ hs (by rw [hx]; rfl) (fun s e => by rw [hx] at e; cases e)
      · cases ha
    · rename_i x y hats
      split at ha
      · rename_i k m k' n hx hy
        injection ha with ha; injection ha with g1 g2; injection g2 with g2 g3; subst g2; subst g3
        exact sim_min' hw henv hop hx hy
      · cases ha
    · rename_i x y hats
      split at ha
      · rename_i k m k' n hx hy
        injection ha with ha; injection ha with g1 g2; injection g2 with g2 g3; subst g2; subst g3
        exact sim_max' hw henv hop hx hy
      · cases ha
    · rename_i sx x t t'
      split at ha
      · rename_i e he
        split at ha
        · rename_i y rows2 hy hr2
          split at ha
          · rename_i hsx
            injection ha with ha; injection ha with g1 g2; injection g2 with g2 g3; subst g1; subst g2; subst g3
            obtain ⟨q0, q1, q2, q3, q4, q5⟩ := hs
            subst q0
            exact sim_append_nil hw henv hu hop he hy q1 q2 hsx hr2 q3 q4 q5
          · rename_i id n hsx
            split at ha
            · rename_i e' sz rows hid
              injection ha with ha; injection ha with g1 g2; injection g2 with g2 g3; subst g1; subst g2; subst g3
              obtain ⟨q0, q01, q02, q03, q1, q2, q3, q4, q5⟩ := hs
              subst q0; subst q01; subst q02
              exact sim_append hw henv hu hop he hy q1 q2 hsx hid q03 hr2 q3 q4 q5
            · cases ha
          · cases ha
        · cases ha
      · cases ha
    · cases ha
end

end Go.Ab
