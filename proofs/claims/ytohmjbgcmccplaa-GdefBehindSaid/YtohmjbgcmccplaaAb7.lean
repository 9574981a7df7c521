/- Abstract operations on memory: pieces of slices, literals, new slices, append. No condition. -/
import Derived.Test.YtohmjbgcmccplaaAb6
set_option linter.unusedVariables false
set_option linter.unusedSimpArgs false
namespace Go.Ab
open Go

/-! ### Struct and array literals -/

def placesT (P : Program) (t : TypeId) : Option (List (Nat × Nat)) :=
  match P.underlying t with
  | some (.struct fs) => fs.toList.mapM (fun f => (P.info? f.type).map fun i => (f.offset, i.size))
  | some (.array n e) => (P.info? e).map fun i => (List.range n).map fun k => (k * i.size, i.size)
  | _ => none

def afill (pl : List (Nat × Nat)) : List AV → List (Nat × AV) → Option (List AV)
  | cells, [] => some cells
  | cells, (i, x) :: rest => match pl[i]?, cellsL x with
    | some (off, size), some cs => if cs.length = size ∧ off + cs.length ≤ cells.length then afill pl (cells.take off ++ cs ++ cells.drop (off + cs.length)) rest else none
    | _, _ => none

theorem afill_rep {E : Env} {pl : List (Nat × Nat)} {place : Nat → Option (Nat × Nat)} (hpl : ∀ i p, pl[i]? = some p → place i = some p) :
    ∀ {parts : List (Nat × AV)} {vals : List (Nat × Value)} {cells cells' : List AV} {vs : Array Value}, RepL E cells vs.toList →
      (parts.length = vals.length ∧ ∀ (k : Nat) (q : Nat × AV), parts[k]? = some q → ∃ u, vals[k]? = some (q.1, u) ∧ Rep E q.2 u) →
      afill pl cells parts = some cells' → ∃ vs', Instr.fill place vs vals = some vs' ∧ RepL E cells' vs'.toList
  | [], vals, cells, cells', vs, hc, hv, hf => by
    injection hf with hf
    subst hf
    have : vals = [] := List.eq_nil_of_length_eq_zero (by have := hv.1; simp at this; omega)
    subst this
    exact ⟨vs, rfl, hc⟩
  | (i, x) :: parts, vals, cells, cells', vs, hc, hv, hf => by
    match vals, hv with
    | [], hv => have := hv.1; simp at this
    | q :: vals, hv =>
      obtain ⟨u, hu, hr⟩ := hv.2 0 (i, x) rfl
      simp at hu
      subst hu
      simp only [afill] at hf
      split at hf
      · rename_i off size cs e1 e2
        split at hf
        · rename_i hcond
          obtain ⟨hl, hone⟩ := cellsL_rep hr e2
          have hlen : u.cells.size = cs.length := by simpa using hl.1.symm
          have hcl : cells.length = vs.size := by simpa using hc.1
          have hsp := hc.splice hl hcond.2
          have hv' : parts.length = vals.length ∧ ∀ (k : Nat) (q : Nat × AV), parts[k]? = some q → ∃ u, vals[k]? = some (q.1, u) ∧ Rep E q.2 u :=
            ⟨by have := hv.1; simpa using this, fun k q hk => by obtain ⟨u', h1, h2⟩ := hv.2 (k + 1) q (by simpa using hk); exact ⟨u', by simpa using h1, h2⟩⟩
          obtain ⟨g1, g2⟩ := Great.foldl_set off u.cells.toList 0 vs
          have heq : (u.cells.zipIdx.foldl (fun cs (c, j) => cs.setIfInBounds (off + j) c) vs) = (vs.toList.take off ++ u.cells.toList ++ vs.toList.drop (off + u.cells.toList.length)).toArray := by
            have e3 : (u.cells.zipIdx.foldl (fun cs (c, j) => cs.setIfInBounds (off + j) c) vs) = ((u.cells.toList.zipIdx 0).foldl (fun cs (x : Value × Nat) => cs.setIfInBounds (off + x.2) x.1) vs) := by
              rw [← Array.foldl_toList, Array.toList_zipIdx]
            rw [e3]
            apply Array.ext_getElem?
            intro k
            rw [g2 k]
            have hle : off + u.cells.size ≤ vs.size := by rw [hlen]; omega
            simp only [Nat.add_zero, Array.length_toList, List.getElem?_toArray, List.getElem?_append, List.length_append, List.length_take, List.getElem?_take, List.getElem?_drop, Array.getElem?_toList]
            by_cases k1 : k < off
            · rw [if_neg (by omega), if_pos (by omega), if_pos (by omega), if_pos k1]
            · by_cases k2 : k < off + u.cells.size
              · rw [if_pos ⟨by omega, k2, by omega⟩, if_pos (by omega), if_neg (by omega), Nat.min_eq_left (by omega)]
              · rw [if_neg (by omega), if_neg (by omega), Nat.min_eq_left (by omega)]
                congr 1
                omega
          obtain ⟨vs', h1, h2⟩ := afill_rep hpl (vs := (vs.toList.take off ++ u.cells.toList ++ vs.toList.drop (off + u.cells.toList.length)).toArray) (by simpa using hsp) hv' hf
          refine ⟨vs', ?_, h2⟩
          rw [← h1, Instr.fill, hpl i _ e1]
          simp only [hlen, hcond.1]
          rw [if_neg (by simp; omega)]
          rw [heq]
        · cases hf
      · cases hf

theorem cst1_repL {E : Env} (vs : List Value) : RepL E (vs.map cst1) vs := by
  refine ⟨by simp, fun i x hx => ?_⟩
  simp only [List.getElem?_map] at hx
  cases hc : vs[i]? with
  | none => rw [hc] at hx; cases hx
  | some u => rw [hc] at hx; injection hx with hx; subst hx; exact ⟨u, rfl, Rep.cst1 u⟩

section
variable {P : Program} {nid : Nat} {E : Env} {h : AHeap} {w : World} {o : Oper} {a : Act} {env : AEnv}
variable (hw : WOK E h w) (henv : ∀ k, Rep E (env k) (a.tmps.getD k undef))
include hw henv

omit hw in
theorem parts_rep (parts : Array (Nat × Operand)) : (parts.toList.map fun q => (q.1, ev env q.2)).length = (parts.map fun (i, x) => (i, a.eval x)).toList.length ∧
    ∀ (k : Nat) (q : Nat × AV), (parts.toList.map fun q => (q.1, ev env q.2))[k]? = some q → ∃ u, (parts.map fun (i, x) => (i, a.eval x)).toList[k]? = some (q.1, u) ∧ Rep E q.2 u := by
  refine ⟨by simp, fun k q hk => ?_⟩
  simp only [List.getElem?_map] at hk
  cases hc : parts.toList[k]? with
  | none => rw [hc] at hk; cases hk
  | some z =>
    rw [hc] at hk
    injection hk with hk
    subst hk
    refine ⟨a.eval z.2, ?_, Rep.ev henv z.2⟩
    simp only [Array.toList_map, List.getElem?_map, hc, Option.map_some]

theorem sim_build {t : TypeId} {y : TyF} {pl : List (Nat × Nat)} {parts : Array (Nat × Operand)} {cells : List AV} (ho : o.op = .build t parts) (ht : tyf P t = some y) (hp : placesT P t = some pl)
    (hc : afill pl (y.zero.cells.toList.map cst1) (parts.toList.map fun q => (q.1, ev env q.2)) = some cells) : OpSim P nid E h w o a (.agg cells) h := by
  obtain ⟨d, i, hd, hi, hz, -, -, -⟩ := tyf_spec ht
  have hpr := parts_rep henv parts
  unfold placesT at hp
  rw [hd] at hp
  cases d <;> simp only [] at hp <;> try (cases hp; done)
  case array n e =>
    cases hie : P.info? e with
    | none => simp [hie] at hp
    | some ie =>
      simp only [hie, Option.map_some, Option.some.injEq] at hp
      obtain ⟨vs', h1, h2⟩ := afill_rep (E := E) (place := fun i => some (i * ie.size, ie.size)) (fun k p hk => by
        subst hp
        simp only [List.getElem?_map] at hk
        cases hr : (List.range n)[k]? with
        | none => rw [hr] at hk; cases hk
        | some z =>
          rw [hr] at hk
          injection hk with hk
          have : z = k := by
            have := (List.getElem?_eq_some_iff.1 hr).2
            simpa using this.symm
          subst this
          exact congrArg some hk) (cst1_repL _) hpr hc
      refine OpSim.pure hw (val := .agg vs') ?_ (RepL.agg h2)
      have := run_build (P := P) w t (parts.map fun (i, x) => (i, a.eval x)) vs' (by
        unfold Program.built
        rw [hi, hd]
        simp only [hz, hie]
        simpa using h1)
      simp [execOp, ho, this]
  case struct fs =>
    obtain ⟨vs', h1, h2⟩ := afill_rep (E := E) (place := (pl[·]?)) (fun k p hk => hk) (cst1_repL _) hpr hc
    refine OpSim.pure hw (val := .agg vs') ?_ (RepL.agg h2)
    have := run_build (P := P) w t (parts.map fun (i, x) => (i, a.eval x)) vs' (by
      unfold Program.built
      rw [hi, hd]
      simp only [hz]
      have hp' : fs.toList.mapM (fun f => (P.info? f.type).map fun i => (f.offset, i.size)) = some pl := by simpa using hp
      rw [hp']
      simpa using h1)
    simp [execOp, ho, this]

/-! ### Slice literals: a new array -/

def rowsOf (env : AEnv) : Nat → List (Nat × Operand) → Option (List (List PV))
  | _, [] => some []
  | k, (i, x) :: rest => if i = k then (match cellsL (ev env x) with
    | some cs => match pvs cs, rowsOf env (k + 1) rest with
      | some ps, some r => some (ps :: r)
      | _, _ => none
    | none => none) else none

omit hw in
theorem rowsOf_rep {sz : Nat} : ∀ {k : Nat} {parts : List (Nat × Operand)} {rows : List (List PV)}, rowsOf env k parts = some rows → (∀ r, r ∈ rows → r.length = sz) →
    rows.length = parts.length ∧ parts = ((parts.map (·.2)).zipIdx k).map (fun x => (x.2, x.1)) ∧ (∀ v, v ∈ parts.map (fun q => a.eval q.2) → v.cells.size = sz ∧ ∀ u, u ∈ v.cells → u.oneCell' = true) ∧
    ∀ (i j : Nat) (r : List PV) (x : PV), rows[i]? = some r → r[j]? = some x → ∃ v u, (parts.map (fun q => a.eval q.2))[i]? = some v ∧ v.cells[j]? = some u ∧ RepI E.I x u
  | k, [], rows, hr, hs => by
    injection hr with hr
    subst hr
    exact ⟨rfl, rfl, fun v hv => by simp at hv, fun i j r x hr => by simp at hr⟩
  | k, (i, x) :: rest, rows, hr, hs => by
    simp only [rowsOf] at hr
    split at hr
    · rename_i hik
      subst hik
      split at hr
      · rename_i cs hcs
        split at hr
        · rename_i ps r' e1 e2
          injection hr with hr
          subst hr
          obtain ⟨hl, hone⟩ := cellsL_rep (Rep.ev henv x) hcs
          obtain ⟨p1, p2⟩ := pvs_rep hl e1
          obtain ⟨q1, q2, q3, q4⟩ := rowsOf_rep e2 (fun r hr => hs r (by simp [hr]))
          have hps := hs ps (by simp)
          refine ⟨by simp [q1], by simp only [List.map_cons, List.zipIdx_cons]; rw [← q2], fun v hv => ?_, fun i' j r z h1 h2 => ?_⟩
          · simp only [List.map_cons, List.mem_cons] at hv
            rcases hv with hv | hv
            · subst hv
              exact ⟨by rw [← hps, p1]; simp, fun u hu => Array.all_eq_true_iff_forall_mem.1 hone u hu⟩
            · exact q3 v hv
          · cases i' with
            | zero =>
              simp at h1
              subst h1
              obtain ⟨u, hu, hh⟩ := p2 j z h2
              exact ⟨a.eval x, u, rfl, by simpa using hu, hh⟩
            | succ i' =>
              simp at h1
              obtain ⟨v, u, g1, g2, g3⟩ := q4 i' j r z h1 h2
              exact ⟨v, u, by simpa using g1, g2, g3⟩
        · cases hr
      · cases hr
    · cases hr

omit hw henv in
theorem eval_zip (a : Act) : ∀ (l : List Operand) (k : Nat), ((l.zipIdx k).map fun x => (x.2, x.1)).map (fun (i, x) => (i, a.eval x)) = ((l.map a.eval).zipIdx k).map fun x => (x.2, x.1)
  | [], k => rfl
  | x :: l, k => by
    simp only [List.zipIdx_cons, List.map_cons]
    rw [eval_zip a l (k + 1)]

omit henv in
/-- A new array of the call's own. -/
theorem sim_newArr {te : TypeId} {sz : Nat} {rows : List (List PV)} {cap : Nat} {vs : Array Value} (hu : E.ch nid = .unborn) (hsz : ∀ r, r ∈ rows → r.length = sz)
    (hlen : vs.size = cap * sz) (hcap : rows.length ≤ cap) (hmax : cap ≤ maxLen)
    (hrep : ∀ (i j : Nat) (r : List PV) (x : PV), rows[i]? = some r → r[j]? = some x → ∃ u, vs[i * sz + j]? = some u ∧ RepI E.I x u) (hone : ∀ u, u ∈ vs → u.oneCell' = true)
    (hrun : (execOp a.eval o).run P w = .ok (.value (.slice (some ⟨w.heap.size, 0, none⟩) rows.length cap)) (w.alloc (.cells vs te))) :
    OpSim P nid E h w o a (.ref nid rows.length) (upd h nid (some (.arr te sz rows))) := by
  let v : Value := .slice (some ⟨w.heap.size, 0, none⟩) rows.length cap
  have hle : ELe E { E with ch := upd E.ch nid (.sl v) } := (EStep.new E nid _).le hu
  have hs : w.heap.size ≤ (w.alloc (.cells vs te)).heap.size := by rw [alloc_size]; omega
  have hci : ∀ g, (ChI.sl v).block = some g → w.heap.size ≤ g := fun g e => by simp [ChI.block, v] at e; omega
  have hI : E.I w.heap.size = none := by
    cases hi : E.I w.heap.size with
    | none => rfl
    | some o => have := (Array.getElem?_eq_some_iff.1 (hw.imm _ _ hi)).1; omega
  have hle2 : rows.length * sz ≤ cap * sz := Nat.mul_le_mul_right sz hcap
  refine ⟨v, _, { E with ch := upd E.ch nid (.sl v) }, .inl hrun, .ref (upd_same _ _ _) (fun _ => ⟨_, _, rfl⟩), .new E nid _, ?_, .new hs (alloc_old w _) hci⟩
  refine hw.new hu hs (alloc_old w _) hci ⟨v, rfl, vs.toList.take (rows.length * sz), ⟨?_, .inr ⟨w.heap.size, cap, vs, rfl, Nat.zero_le _, alloc_new w _, hcap, hmax, hlen, rfl⟩⟩, hsz, fun i j r x h1 h2 => ?_, fun u hu => ?_, fun g hg => ?_⟩
  · simp; omega
  · obtain ⟨u, hu, hr⟩ := hrep i j r x h1 h2
    have hi : i < rows.length := (List.getElem?_eq_some_iff.1 h1).1
    have hj : j < sz := by have := (List.getElem?_eq_some_iff.1 h2).1; have := hsz r (List.mem_of_getElem? h1); omega
    have hlt : i * sz + sz ≤ rows.length * sz := by
      have := Nat.mul_le_mul_right sz (show i + 1 ≤ rows.length by omega)
      rw [Nat.add_mul] at this; omega
    exact ⟨u, by rw [List.getElem?_take_of_lt (by omega)]; simpa using hu, hr⟩
  · exact hone u (by simpa using List.mem_of_mem_take hu)
  · have : g = w.heap.size := by simpa [Value.ownBlock, v] using hg.symm
    subst this
    exact hI

theorem sim_buildSlice {t e : TypeId} {y : TyF} {len : Nat} {parts : Array (Nat × Operand)} {rows : List (List PV)} (hu : E.ch nid = .unborn) (ho : o.op = .buildSlice t len parts) (ht : slE P t = some e) (hy : tyf P e = some y)
    (hr : rowsOf env 0 parts.toList = some rows) (hsz : ∀ r, r ∈ rows → r.length = y.size) (hlen : len = rows.length) (hpos : len * y.size ≠ 0) (hsmall : len * y.size ≤ 2 ^ 24) :
    OpSim P nid E h w o a (.ref nid rows.length) (upd h nid (some (.arr e y.size rows))) := by
  obtain ⟨q1, q2, q3, q4⟩ := rowsOf_rep (a := a) (E := E) henv hr hsz
  obtain ⟨d, i, hd, hi, hz, hs1, -, -⟩ := tyf_spec hy
  have hpos' : 0 < y.size := Nat.pos_of_ne_zero (fun e => hpos (by rw [e, Nat.mul_zero]))
  subst hlen
  have hmk : (parts.map fun (i, x) => (i, a.eval x)).toList = ((parts.toList.map fun q => a.eval q.2).zipIdx 0).map fun x => (x.2, x.1) := by
    rw [Array.toList_map]
    conv => lhs; rw [q2]
    have : (parts.toList.map fun q => a.eval q.2) = (parts.toList.map (·.2)).map a.eval := by rw [List.map_map]; rfl
    rw [this]
    exact eval_zip a _ 0
  have hfill := Great.fill_whole hpos' (parts.toList.map fun q => a.eval q.2) ((Array.range (rows.length * y.size)).map (y.zero.cells[· % y.zero.cells.size]!)) (fun v hv => (q3 v hv).1) (by simp [q1])
  have hrun := run_buildSlice (P := P) w t e rows.length (parts.map fun (i, x) => (i, a.eval x)) _ i y.zero (slE_spec ht) hi hz (by rw [hs1]; omega) (by rw [hs1]; exact hpos) (by rw [hs1, hmk]; exact hfill)
  have hfl : ∀ k, ((parts.toList.map fun q => a.eval q.2).flatMap fun v => v.cells.toList)[k]? = _ := Great.flat_get hpos' _ (fun v hv => (q3 v hv).1)
  have hmax : rows.length ≤ maxLen := by
    have : rows.length ≤ rows.length * y.size := Nat.le_mul_of_pos_right _ hpos'
    unfold maxLen; omega
  refine sim_newArr hw hu hsz (cap := rows.length) ?_ (Nat.le_refl _) hmax ?_ ?_ (by unfold execOp; simp only [ho, Sem.run_bind]; rw [hrun]; rfl)
  · have hl : ∀ (l : List Value), (∀ v, v ∈ l → v.cells.size = y.size) → (l.flatMap fun v => v.cells.toList).length = l.length * y.size := by
      intro l
      induction l with
      | nil => intro _; simp
      | cons v l ih => intro hv; rw [List.flatMap_cons, List.length_append, ih (fun u hu => hv u (by simp [hu])), List.length_cons, Nat.add_mul]; have := hv v (by simp); simp; omega
    simpa [q1] using hl _ (fun v hv => (q3 v hv).1)
  · intro i' j r x h1 h2
    obtain ⟨v, u, g1, g2, g3⟩ := q4 i' j r x h1 h2
    have hj : j < y.size := by have := (List.getElem?_eq_some_iff.1 h2).1; have := hsz r (List.mem_of_getElem? h1); omega
    refine ⟨u, ?_, g3⟩
    have := hfl (i' * y.size + j)
    rw [show (i' * y.size + j) / y.size = i' by rw [Nat.add_comm, Nat.add_mul_div_right _ _ hpos', Nat.div_eq_of_lt hj, Nat.zero_add], show (i' * y.size + j) % y.size = j by rw [Nat.add_comm, Nat.add_mul_mod_self_right, Nat.mod_eq_of_lt hj], g1] at this
    simpa [g2] using this
  · intro u hu
    simp only [List.mem_toArray, List.mem_flatMap] at hu
    obtain ⟨v, hv, hu⟩ := hu
    exact (q3 v hv).2 u (by simpa using hu)
end

end Go.Ab
