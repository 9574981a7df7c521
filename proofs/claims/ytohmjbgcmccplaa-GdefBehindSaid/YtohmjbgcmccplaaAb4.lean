/- Abstract operations on memory: addresses, loads, stores, new variables. No condition. -/
import Derived.Test.YtohmjbgcmccplaaAb3
set_option linter.unusedVariables false
set_option linter.unusedSimpArgs false
namespace Go.Ab
open Go

theorem add_mk (g off n : Nat) : (⟨g, off, none⟩ : Addr).add n = ⟨g, off + n, none⟩ := by
  unfold Addr.add; split
  · rename_i h; subst h; rfl
  · rfl

/-! ### How chunks stay -/

theorem ArrOK.keep {E E' : Env} {w w' : World} {e : TypeId} {sz : Nat} {rows : List (List PV)} {v : Value} (h : ArrOK E w e sz rows v) (hE : ILe E.I E'.I)
    (hk : ∀ g, v.ownBlock = some g → w'.heap[g]? = w.heap[g]?) (hI : ∀ g, v.ownBlock = some g → E'.I g = none) : ArrOK E' w' e sz rows v := by
  obtain ⟨xs, ho, hr, hx, h1, hn⟩ := h
  refine ⟨xs, ⟨ho.1, ?_⟩, hr, fun i j r x e1 e2 => ?_, h1, hI⟩
  · rcases ho.2 with hc | ⟨g, cap, cur, rfl, hb, hg, rest⟩
    · exact .inl hc
    · exact .inr ⟨g, cap, cur, rfl, hb, (hk g (by simp [Value.ownBlock])).trans hg, rest⟩
  · obtain ⟨u, hu, hr⟩ := hx i j r x e1 e2
    exact ⟨u, hu, hr.mono hE⟩

theorem ownBlock_eq (v : Value) : v.ownBlock = (ChI.sl v).block := by
  cases v <;> first | rfl | (rename_i a n c; cases a <;> rfl)

theorem CkOK.keep {E E' : Env} {w w' : World} {ci : ChI} {ck : Option Ck} (h : CkOK E w ci ck) (hE : ELe E E')
    (hk : Ck.owned ck = true → ∀ g, ci.block = some g → w'.heap[g]? = w.heap[g]?) (hI : Ck.owned ck = true → ∀ g, ci.block = some g → E'.I g = none) : CkOK E' w' ci ck := by
  match ck, h with
  | none, _ => trivial
  | some (.box t cells), ⟨g, vs, e, hg, hs, hc, hn⟩ =>
    subst e
    refine ⟨g, vs, rfl, (hk rfl g rfl).trans hg, hs, fun j x hx => ?_, hI rfl g rfl⟩
    obtain ⟨v, hv, hr⟩ := hc j x hx
    exact ⟨v, hv, hr.mono hE⟩
  | some (.arr e sz rows), ⟨v, e1, ha⟩ =>
    subst e1
    exact ⟨v, rfl, ha.keep hE.I (fun g hg => hk rfl g (by rw [← ownBlock_eq]; exact hg)) (fun g hg => hI rfl g (by rw [← ownBlock_eq]; exact hg))⟩
  | some (.fz rows), ⟨v, e1, ha⟩ => exact ⟨v, e1, ha.mono hE.I⟩

theorem CkOK.immNone {E : Env} {w : World} {ci : ChI} {ck : Option Ck} (h : CkOK E w ci ck) (ho : Ck.owned ck = true) {g : Nat} (hg : ci.block = some g) : E.I g = none := by
  match ck, h with
  | some (.box t cells), ⟨g', vs, e, _, _, _, hn⟩ => subst e; simp [ChI.block] at hg; subst hg; exact hn
  | some (.arr e sz rows), ⟨v, e1, xs, _, _, _, _, hn⟩ => subst e1; exact hn g (by rw [ownBlock_eq]; exact hg)

theorem CkOK.there {E : Env} {w : World} {ci : ChI} {ck : Option Ck} (h : CkOK E w ci ck) (ho : Ck.owned ck = true) {g : Nat} (hg : ci.block = some g) : g < w.heap.size := by
  match ck, h with
  | some (.box t cells), ⟨g', vs, e, hh, _, _, hn⟩ => subst e; simp [ChI.block] at hg; subst hg; exact (Array.getElem?_eq_some_iff.1 hh).1
  | some (.arr e sz rows), ⟨v, e1, xs, hw, _⟩ => subst e1; exact (hw.lt g (by rw [ownBlock_eq]; exact hg)).2

theorem CkOK.born {E : Env} {w : World} {ci : ChI} {ck : Ck} (h : CkOK E w ci (some ck)) : ci ≠ .unborn := by
  intro e
  subst e
  match ck, h with
  | .box t cells, ⟨g, vs, e, _⟩ => cases e
  | .arr e sz rows, ⟨v, e1, _⟩ => cases e1
  | .fz rows, ⟨v, e1, _⟩ => cases e1

/-- A chunk that is written: its block alone turns. -/
theorem WOK.touch {E : Env} {h : AHeap} {w w' : World} (hw : WOK E h w) {id g : Nat} (ho : Ck.owned (h id) = true) (hg : (E.ch id).block = some g)
    (hb : ∀ g', g' ≠ g → w'.heap[g']? = w.heap[g']?) {ck : Option Ck} (hck : CkOK E w' (E.ch id) ck) : WOK E (upd h id ck) w' := by
  have hI := (hw.ck id).immNone ho hg
  refine ⟨fun g' o e => ?_, fun id' => ?_, fun i j g' hij h1 h2 e1 => ?_⟩
  · rw [hb g' (fun e' => by subst e'; rw [hI] at e; cases e)]
    exact hw.imm g' o e
  · by_cases e : id' = id
    · subst e; rw [upd_same]; exact hck
    · rw [upd_other _ _ e]
      exact (hw.ck id').keep (.refl _) (fun h1 g' e1 => hb g' (fun e2 => by subst e2; exact hw.dist id id' g' (Ne.symm e) ho h1 hg e1)) (fun h1 g' e1 => (hw.ck id').immNone h1 e1)
  · have a1 : Ck.owned (h i) = true := by
      by_cases e : i = id
      · subst e; exact ho
      · rw [upd_other _ _ e] at h1; exact h1
    have a2 : Ck.owned (h j) = true := by
      by_cases e : j = id
      · subst e; exact ho
      · rw [upd_other _ _ e] at h2; exact h2
    exact hw.dist i j g' hij a1 a2 e1

theorem Moved.touch {E : Env} {h : AHeap} {w w' : World} {id g : Nat} (ho : Ck.owned (h id) = true) (hg : (E.ch id).block = some g) (hs : w.heap.size ≤ w'.heap.size)
    (hb : ∀ g', g' ≠ g → w'.heap[g']? = w.heap[g']?) {ck : Option Ck} (hsm : w'.os = w.os ∧ w'.output = w.output := by exact ⟨rfl, rfl⟩) : Moved E h w E (upd h id ck) w' := by
  refine ⟨hs, fun g' _ hn => hb g' (fun e => hn ⟨id, ho, by rw [e]; exact hg⟩), fun _ _ e => .inl e, fun g' e => .inr ?_, hsm⟩
  obtain ⟨i, h1, h2⟩ := e
  by_cases e : i = id
  · subst e; exact ⟨i, ho, h2⟩
  · rw [upd_other _ _ e] at h1; exact ⟨i, h1, h2⟩

/-- A new chunk. -/
theorem WOK.new {E : Env} {h : AHeap} {w w' : World} (hw : WOK E h w) {nid : Nat} (hu : E.ch nid = .unborn) (hs : w.heap.size ≤ w'.heap.size)
    (hb : ∀ g, g < w.heap.size → w'.heap[g]? = w.heap[g]?) {ci : ChI} {ck : Option Ck} (hci : ∀ g, ci.block = some g → w.heap.size ≤ g)
    (hck : CkOK { E with ch := upd E.ch nid ci } w' ci ck) : WOK { E with ch := upd E.ch nid ci } (upd h nid ck) w' := by
  have hle : ELe E { E with ch := upd E.ch nid ci } := ⟨.refl _, fun id => by
    by_cases e : id = nid
    · subst e; exact .inl hu
    · right; left; show upd E.ch nid ci id = _; rw [upd_other _ _ e]⟩
  refine ⟨fun g o e => ?_, fun id => ?_, fun i j g hij h1 h2 e1 => ?_⟩
  · have := hw.imm g o e
    rw [hb g (Array.getElem?_eq_some_iff.1 this).1]
    exact this
  · show CkOK _ w' (upd E.ch nid ci id) _
    by_cases e : id = nid
    · subst e; rw [upd_same, upd_same]; exact hck
    · rw [upd_other _ _ e, upd_other _ _ e]
      exact (hw.ck id).keep hle (fun h1 g e1 => hb g ((hw.ck id).there h1 e1)) (fun h1 g e1 => (hw.ck id).immNone h1 e1)
  · replace e1 : (upd E.ch nid ci i).block = some g := e1
    show (upd E.ch nid ci j).block ≠ some g
    by_cases ei : i = nid
    · subst ei
      have hj : j ≠ i := Ne.symm hij
      rw [upd_same] at e1
      rw [upd_other _ _ hj] at h2 ⊢
      intro e2
      have := (hw.ck j).there h2 e2
      have := hci g e1
      omega
    · rw [upd_other _ _ ei] at h1 e1
      by_cases ej : j = nid
      · subst ej
        rw [upd_same]
        intro e2
        have := (hw.ck i).there h1 e1
        have := hci g e2
        omega
      · rw [upd_other _ _ ej] at h2 ⊢
        exact hw.dist i j g hij h1 h2 e1

theorem Moved.new {E : Env} {h : AHeap} {w w' : World} {nid : Nat} (hs : w.heap.size ≤ w'.heap.size)
    (hb : ∀ g, g < w.heap.size → w'.heap[g]? = w.heap[g]?) {ci : ChI} {ck : Option Ck} (hci : ∀ g, ci.block = some g → w.heap.size ≤ g) (hsm : w'.os = w.os ∧ w'.output = w.output := by exact ⟨rfl, rfl⟩) :
    Moved E h w { E with ch := upd E.ch nid ci } (upd h nid ck) w' := by
  refine ⟨hs, fun g hg _ => hb g hg, fun _ _ e => .inl e, fun g e => ?_, hsm⟩
  obtain ⟨i, h1, h2⟩ := e
  have h2 : (upd E.ch nid ci i).block = some g := h2
  by_cases e : i = nid
  · subst e; rw [upd_same] at h2; exact .inl (hci g h2)
  · rw [upd_other _ _ e] at h1 h2; exact .inr ⟨i, h1, h2⟩

theorem EStep.new (E : Env) (nid : Nat) (ci : ChI) : EStep nid E { E with ch := upd E.ch nid ci } :=
  ⟨.refl _, fun id e => .inl (by show upd E.ch nid ci id = _; rw [upd_other _ _ e])⟩

theorem alloc_old (w : World) (o : Obj) (g : Nat) (h : g < w.heap.size) : (w.alloc o).heap[g]? = w.heap[g]? := by
  show (w.heap.push o)[g]? = w.heap[g]?
  rw [Array.getElem?_push, if_neg (Nat.ne_of_lt h)]
theorem alloc_new (w : World) (o : Obj) : (w.alloc o).heap[w.heap.size]? = some o := by
  show (w.heap.push o)[w.heap.size]? = some o
  simp
theorem alloc_size (w : World) (o : Obj) : (w.alloc o).heap.size = w.heap.size + 1 := by
  show (w.heap.push o).size = _
  simp

/-- A new variable. -/
theorem sim_newVar {P : Program} {nid : Nat} {E : Env} {h : AHeap} {w : World} {o : Oper} {a : Act} (hw : WOK E h w) (hu : E.ch nid = .unborn) {t : TypeId} {v : Value} {cells : List AV}
    (hr : RepL E cells v.cells.toList)
    (hrun : (execOp a.eval o).run P w = .ok (.value (.pointer (some ⟨w.heap.size, 0, none⟩))) (w.alloc (.cells v.cells t))) :
    OpSim P nid E h w o a (.ptr nid 0) (upd h nid (some (.box t cells))) := by
  have hle : ELe E { E with ch := upd E.ch nid (.blk w.heap.size) } := (EStep.new E nid _).le hu
  have hs : w.heap.size ≤ (w.alloc (.cells v.cells t)).heap.size := by rw [alloc_size]; omega
  have hci : ∀ g, (ChI.blk w.heap.size).block = some g → w.heap.size ≤ g := fun g e => by simp [ChI.block] at e; omega
  have hI : E.I w.heap.size = none := by
    cases hi : E.I w.heap.size with
    | none => rfl
    | some o => have := (Array.getElem?_eq_some_iff.1 (hw.imm _ _ hi)).1; omega
  refine ⟨_, _, { E with ch := upd E.ch nid (.blk w.heap.size) }, .inl hrun, .ptr (upd_same _ _ _), .new E nid _, ?_, .new hs (alloc_old w _) hci⟩
  refine hw.new hu hs (alloc_old w _) hci ⟨_, _, rfl, alloc_new w _, by simpa using hr.1.symm, fun j x hx => ?_, hI⟩
  obtain ⟨u, hu, hh⟩ := (hr.mono hle).2 j x hx
  exact ⟨u, by simpa using hu, hh⟩

section
variable {P : Program} {nid : Nat} {E : Env} {h : AHeap} {w : World} {o : Oper} {a : Act} {env : AEnv}
variable (hw : WOK E h w) (henv : ∀ k, Rep E (env k) (a.tmps.getD k undef))
include hw henv

omit henv in
theorem sim_alloc {t : TypeId} {y : TyF} (hu : E.ch nid = .unborn) (ho : o.op = .alloc t) (ht : tyf P t = some y) :
    OpSim P nid E h w o a (.ptr nid 0) (upd h nid (some (.box t (y.zero.cells.toList.map cst1)))) := by
  refine sim_newVar hw hu (v := y.zero) ?_ ?_
  · refine ⟨by simp, fun i x hx => ?_⟩
    simp only [List.getElem?_map] at hx
    cases hc : y.zero.cells.toList[i]? with
    | none => rw [hc] at hx; cases hx
    | some u => rw [hc] at hx; injection hx with hx; subst hx; exact ⟨u, rfl, Rep.cst1 u⟩
  · simp [execOp, ho, Instr.alloc, run_zeroT ht, newVar, newRow]

theorem sim_box {t : TypeId} {x : Operand} {cells : List AV} (hu : E.ch nid = .unborn) (ho : o.op = .box t x) (hx : cellsL (ev env x) = some cells) :
    OpSim P nid E h w o a (.ptr nid 0) (upd h nid (some (.box t cells))) := by
  refine sim_newVar hw hu (v := a.eval x) (cellsL_rep (Rep.ev henv x) hx).1 ?_
  simp [execOp, ho, Instr.box, newVar, newRow]

/-! ### Addresses -/

def offA (n : Nat) : AV → Option AV
  | .ptr id off => some (.ptr id (off + n))
  | .apt id sz i j => some (.apt id sz i (j + n))
  | .rpt row j => some (.rpt row (j + n))
  | _ => none

omit hw henv in
theorem offA_rep {x y : AV} {v : Value} {n : Nat} (hr : Rep E x v) (hy : offA n x = some y) : ∃ ad, v = .pointer (some ad) ∧ (∃ g off, ad = ⟨g, off, none⟩ ∨ True) ∧ Rep E y (.pointer (some (ad.add n))) := by
  cases hr <;> simp only [offA] at hy <;> try (cases hy; done)
  all_goals (injection hy with hy; subst hy)
  · rename_i hc; exact ⟨_, rfl, ⟨0, 0, .inr trivial⟩, by rw [add_mk]; exact .ptr hc⟩
  · rename_i q hc; exact ⟨_, rfl, ⟨0, 0, .inr trivial⟩, .ptrd _ hc⟩
  · rename_i hc; exact ⟨_, rfl, ⟨0, 0, .inr trivial⟩, by rw [add_mk, Nat.add_assoc]; exact .apt hc⟩
  · rename_i q hc; exact ⟨_, rfl, ⟨0, 0, .inr trivial⟩, .aptd _ hc⟩
  · rename_i g off vs hcell h1 hrep; exact ⟨_, rfl, ⟨0, 0, .inr trivial⟩, by rw [add_mk, Nat.add_assoc]; exact .rpt g off vs hcell h1 hrep⟩

theorem sim_fieldAddr {t : TypeId} {f n sz : Nat} {b : Bool} {x : Operand} {y : AV} (ho : o.op = .fieldAddr t x f) (ht : fOff P t f = some (n, sz, b)) (hy : offA n (ev env x) = some y) :
    OpSim P nid E h w o a y h := by
  obtain ⟨ad, e, -, hr⟩ := offA_rep (Rep.ev henv x) hy
  refine OpSim.pure hw (val := .pointer (some (ad.add n))) ?_ hr
  unfold fOff at ht
  split at ht
  · rename_i fs hfs
    split at ht
    · rename_i fld hfld
      split at ht
      · rename_i y hty
        split at ht
        · cases ht
        · rename_i hne
          injection ht with ht
          injection ht with ht1 ht2
          subst ht1
          have hsz := run_sizeT hty w
          simp [execOp, ho, e, Instr.fieldAt, run_underlying hfs, hfld, Instr.sureAddr, fieldPlace, hsz, hne]
      · cases ht
    · cases ht
  · cases ht

/-- A part of cells. -/
def takeT (agg : Bool) (size : Nat) (cells : List AV) (off : Nat) : Option AV :=
  if agg then (if off + size ≤ cells.length then some (.agg ((cells.drop off).take size)) else none) else cells[off]?

omit hw henv in
theorem takeT_vals {agg : Bool} {size off : Nat} {cells : List AV} {vs : List Value} {y : AV} (hr : RepL E cells vs) (hy : takeT agg size cells off = some y) :
    (agg = true → off + size ≤ vs.length ∧ Rep E y (.agg ((vs.drop off).take size).toArray)) ∧ (agg = false → ∃ v, vs[off]? = some v ∧ Rep E y v) := by
  unfold takeT at hy
  cases agg with
  | true =>
    simp only [if_true] at hy
    split at hy
    · rename_i hle
      injection hy with hy
      subst hy
      refine ⟨fun _ => ⟨by rw [← hr.1]; exact hle, RepL.agg ⟨?_, fun i x hx => ?_⟩⟩, fun h => by cases h⟩
      · simp [hr.1]
      · simp only [List.getElem?_take, List.getElem?_drop] at hx ⊢
        split at hx
        · rename_i hi
          obtain ⟨v, hv, hh⟩ := hr.2 (off + i) x hx
          exact ⟨v, by simp [hi, hv], hh⟩
        · cases hx
    · cases hy
  | false =>
    simp only [Bool.false_eq_true, if_false] at hy
    exact ⟨fun h => (by cases h), fun _ => hr.2 off y hy⟩

theorem sim_field {t : TypeId} {f n sz : Nat} {b : Bool} {x : Operand} {xs : List AV} {y : AV} (ho : o.op = .field t x f) (ht : fOff P t f = some (n, sz, b)) (hx : ev env x = .agg xs)
    (hy : takeT b sz xs n = some y) : OpSim P nid E h w o a y h := by
  have hr := Rep.ev henv x
  rw [hx] at hr
  obtain ⟨vs, e⟩ : ∃ vs, a.eval x = .agg vs := by
    generalize a.eval x = v at hr
    cases hr with | agg vs => exact ⟨vs, rfl⟩
  rw [e] at hr
  have hl := RepL.of_agg hr
  have hv := takeT_vals hl hy
  unfold fOff at ht
  split at ht
  · rename_i fs hfs
    split at ht
    · rename_i fld hfld
      split at ht
      · rename_i yt hty
        split at ht
        · cases ht
        · injection ht with ht
          injection ht with ht1 ht2
          injection ht2 with ht2 ht3
          subst ht1; subst ht2; subst ht3
          have hsz := run_sizeT hty w
          have hag := run_isAgg hty w
          cases hb : yt.agg with
          | true =>
            obtain ⟨hle, hrr⟩ := hv.1 hb
            refine OpSim.pure hw ?_ hrr
            have : (vs.extract fld.offset (fld.offset + yt.size)) = ((vs.toList.drop fld.offset).take yt.size).toArray := by
              apply Array.ext'
              simp [List.extract_eq_take_drop]
            simp [execOp, ho, e, Instr.field, run_underlying hfs, hfld, part, hag, hb, hsz, asAgg, this]
          | false =>
            obtain ⟨v, hv1, hrr⟩ := hv.2 hb
            refine OpSim.pure hw ?_ hrr
            have hv2 : vs[fld.offset]? = some v := by simpa using hv1
            simp [execOp, ho, e, Instr.field, run_underlying hfs, hfld, part, hag, hb, asAgg, hv2]
      · cases ht
    · cases ht
  · cases ht
end

end Go.Ab
