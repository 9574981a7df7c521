/- Abstract operations on memory: indices, lengths, loads, stores. No condition. -/
import Derived.Test.YtohmjbgcmccplaaAb4
set_option linter.unusedVariables false
set_option linter.unusedSimpArgs false
namespace Go.Ab
open Go

theorem RepI.nil {I : Nat → Option Obj} : RepI I (.fro []) (.slice none 0 0) :=
  .fro 0 [] none 0 0 0 (fun _ _ => undef) (fun h => absurd h (by simp)) (Nat.le_refl _) (fun r h => by simp at h) (fun i j h => absurd h (by simp)) (fun i j h => absurd h (by simp)) (fun i j r x h => by simp at h)

theorem Rep.fro_inv {E : Env} {rows : List (List PV)} {v : Value} (h : Rep E (.p (.fro rows)) v) :
    ∃ A c, v = .slice A rows.length c ∧ rows.length ≤ c ∧ RepI E.I (.fro rows) (.slice A rows.length c) := by
  cases h with
  | p h =>
    cases h with
    | fro sz rows A g off c vs hA hc hr hcell h1 hrep => exact ⟨A, c, rfl, hc, .fro sz rows A g off c vs hA hc hr hcell h1 hrep⟩

theorem Rep.ref_inv {E : Env} {id n : Nat} {v : Value} (h : Rep E (.ref id n) v) :
    ∃ A c, v = .slice A n c ∧ (0 < n → ∃ g off, A = some ⟨g, off, none⟩) ∧ (E.ch id = .sl (.slice A n c) ∨ E.ch id = .dead) := by
  cases h with
  | ref h hA => exact ⟨_, _, rfl, hA, .inl h⟩
  | refd A c h hA => exact ⟨_, _, rfl, hA, .inr h⟩

/-- A row of immutable memory: where it lies. -/
theorem RepI.row {I : Nat → Option Obj} {rows : List (List PV)} {A : Option Addr} {n c : Nat} (h : RepI I (.fro rows) (.slice A n c)) {i : Nat} (hi : i < rows.length) :
    ∃ g off, A = some ⟨g, off, none⟩ ∧ ∀ row, rows[i]? = some row → ∃ vs : Nat → Value,
      (∀ k, k < row.length → icell I ⟨g, off + i * row.length + k, none⟩ = some (vs k)) ∧ (∀ k, k < row.length → (vs k).oneCell' = true) ∧ ∀ k x, row[k]? = some x → RepI I x (vs k) := by
  cases h with
  | fro sz rows A g off c vs hA hc hr hcell h1 hrep =>
    refine ⟨g, off, hA (by omega), fun row hrow => ⟨vs i, fun k hk => ?_, fun k hk => ?_, fun k x hx => hrep i k row x hrow hx⟩⟩
    · have := hr row (List.mem_of_getElem? hrow)
      rw [this] at hk ⊢
      exact hcell i k hi hk
    · have := hr row (List.mem_of_getElem? hrow)
      rw [this] at hk
      exact h1 i k hi hk

section
variable {P : Program} {nid : Nat} {E : Env} {h : AHeap} {w : World} {o : Oper} {a : Act} {env : AEnv}
variable (hw : WOK E h w) (henv : ∀ k, Rep E (env k) (a.tmps.getD k undef))
include hw henv

theorem sim_idx_fro {t e : TypeId} {y : TyF} {x ix : Operand} {rows : List (List PV)} {k : IntKind} {i : Int} {row : List PV} (ho : o.op = .indexAddr t x ix) (ht : slE P t = some e) (hy : tyf P e = some y)
    (hx : ev env x = .p (.fro rows)) (hi : ev env ix = .p (.sc (.int k i))) (h0 : 0 ≤ i) (hrow : rows[i.toNat]? = some row) (hs : row.length = y.size) :
    OpSim P nid E h w o a (.rpt row 0) h := by
  have hlt : i.toNat < rows.length := (List.getElem?_eq_some_iff.1 hrow).1
  have hr := Rep.ev henv x
  rw [hx] at hr
  have e2 : a.eval ix = .int k i := by have := Rep.ev henv ix; rw [hi] at this; exact this.sc_inv
  obtain ⟨A, c, e1, hc, hI⟩ := hr.fro_inv
  obtain ⟨g, off, rfl, hg⟩ := hI.row hlt
  obtain ⟨vs, h1, h2, h3⟩ := hg row hrow
  refine OpSim.pure hw (val := .pointer (some ⟨g, off + i.toNat * y.size + 0, none⟩)) ?_ (.rpt g _ vs (by rw [← hs]; exact h1) h2 h3)
  have hin : 0 ≤ i ∧ i < (rows.length : Int) := ⟨h0, by omega⟩
  have hsz := run_sizeT hy w
  simp [execOp, ho, e1, e2, Instr.indexAt, asIntOf, run_underlying (slE_spec ht), hin, hsz, add_mk]

theorem sim_idx_ref {t e : TypeId} {y : TyF} {x ix : Operand} {id n : Nat} {k : IntKind} {i : Int} (ho : o.op = .indexAddr t x ix) (ht : slE P t = some e) (hy : tyf P e = some y)
    (hx : ev env x = .ref id n) (hi : ev env ix = .p (.sc (.int k i))) (h0 : 0 ≤ i) (h1 : i < n) :
    OpSim P nid E h w o a (.apt id y.size i.toNat 0) h := by
  have hr := Rep.ev henv x
  rw [hx] at hr
  have e2 : a.eval ix = .int k i := by have := Rep.ev henv ix; rw [hi] at this; exact this.sc_inv
  obtain ⟨A, c, e1, hA, hd⟩ := hr.ref_inv
  obtain ⟨g, off, rfl⟩ := hA (by omega)
  have hsz := run_sizeT hy w
  have hin : 0 ≤ i ∧ i < (n : Int) := ⟨h0, h1⟩
  refine OpSim.pure hw (val := .pointer (some ⟨g, off + i.toNat * y.size + 0, none⟩)) ?_ ?_
  · simp [execOp, ho, e1, e2, Instr.indexAt, asIntOf, run_underlying (slE_spec ht), hin, hsz, add_mk]
  · rcases hd with hd | hd
    · exact .apt hd
    · exact .aptd _ hd

theorem sim_idx_arr {t e : TypeId} {n : Nat} {y : TyF} {x ix : Operand} {k : IntKind} {i : Int} {r : AV} (ho : o.op = .indexAddr t x ix) (ht : arE P t = some (n, e)) (hy : tyf P e = some y)
    (hi : ev env ix = .p (.sc (.int k i))) (h0 : 0 ≤ i) (h1 : i < n) (hx : offA (i.toNat * y.size) (ev env x) = some r) :
    OpSim P nid E h w o a r h := by
  obtain ⟨ad, e1, -, hr⟩ := offA_rep (Rep.ev henv x) hx
  have e2 : a.eval ix = .int k i := by have := Rep.ev henv ix; rw [hi] at this; exact this.sc_inv
  have hsz := run_sizeT hy w
  have hin : 0 ≤ i ∧ i < (n : Int) := ⟨h0, h1⟩
  refine OpSim.pure hw (val := .pointer (some (ad.add (i.toNat * y.size)))) ?_ hr
  simp [execOp, ho, e1, e2, Instr.indexAt, asIntOf, run_underlying (arE_spec ht), hin, hsz, Instr.sureAddr]

theorem sim_index_arr {t e : TypeId} {n : Nat} {y : TyF} {x ix : Operand} {k : IntKind} {i : Int} {xs : List AV} {r : AV} (ho : o.op = .index t x ix) (ht : arE P t = some (n, e)) (hy : tyf P e = some y)
    (hi : ev env ix = .p (.sc (.int k i))) (h0 : 0 ≤ i) (h1 : i < n) (hx : ev env x = .agg xs) (hr : takeT y.agg y.size xs (i.toNat * y.size) = some r) :
    OpSim P nid E h w o a r h := by
  have hv := Rep.ev henv x
  rw [hx] at hv
  have e2 : a.eval ix = .int k i := by have := Rep.ev henv ix; rw [hi] at this; exact this.sc_inv
  obtain ⟨vs, e1⟩ : ∃ vs, a.eval x = .agg vs := by
    generalize a.eval x = v at hv
    cases hv with | agg vs => exact ⟨vs, rfl⟩
  rw [e1] at hv
  have hl := RepL.of_agg hv
  have hvv := takeT_vals hl hr
  have hsz := run_sizeT hy w
  have hag := run_isAgg hy w
  have hin : 0 ≤ i ∧ i < (n : Int) := ⟨h0, h1⟩
  cases hb : y.agg with
  | true =>
    obtain ⟨hle, hrr⟩ := hvv.1 hb
    refine OpSim.pure hw ?_ hrr
    have : (vs.extract (i.toNat * y.size) (i.toNat * y.size + y.size)) = ((vs.toList.drop (i.toNat * y.size)).take y.size).toArray := by
      apply Array.ext'
      simp [List.extract_eq_take_drop]
    simp [execOp, ho, e1, e2, Instr.index, asIntOf, run_underlying (arE_spec ht), hin, hsz, part, hag, hb, this]
  | false =>
    obtain ⟨v, hv1, hrr⟩ := hvv.2 hb
    refine OpSim.pure hw ?_ hrr
    have hv2 : vs[i.toNat * y.size]? = some v := by simpa using hv1
    simp [execOp, ho, e1, e2, Instr.index, asIntOf, run_underlying (arE_spec ht), hin, hsz, part, hag, hb, hv2]

/-! ### Lengths -/

def lenA : AV → Option Nat
  | .nil => some 0
  | .p (.fro rows) => some rows.length
  | .ref _ n => some n
  | .p (.sc (.string s)) => some s.size
  | _ => none

def lenT (P : Program) (t : TypeId) : Bool :=
  match P.underlying t with
  | some (.slice _) => true
  | some .string => true
  | _ => false

theorem sim_len {t : TypeId} {x : Operand} {n : Nat} (ho : o.op = .call { callee := .builtin .len, args := #[x], argTypes := #[t] }) (ht : lenT P t = true) (hx : lenA (ev env x) = some n)
    (hs : (∃ s, ev env x = .p (.sc (.string s))) ↔ P.underlying t = some .string) :
    OpSim P nid E h w o a (.p (.sc (.int .i64 n))) h := by
  have hr := Rep.ev henv x
  refine OpSim.pure hw (val := .int .i64 n) ?_ (.p (.sc _))
  unfold lenT at ht
  split at ht
  · rename_i e he
    have hns : ∀ s, ev env x ≠ .p (.sc (.string s)) := fun s hs' => by have := hs.1 ⟨s, hs'⟩; rw [he] at this; cases this
    obtain ⟨A, c, e1⟩ : ∃ A c, a.eval x = .slice A n c := by
      generalize ev env x = y at hr hx hns
      generalize a.eval x = v at hr
      unfold lenA at hx
      split at hx <;> try (cases hx; done)
      · injection hx with hx; subst hx; cases hr; exact ⟨_, _, rfl⟩
      · injection hx with hx; subst hx; obtain ⟨A, c, e1, -⟩ := hr.fro_inv; exact ⟨A, c, e1⟩
      · injection hx with hx; subst hx; obtain ⟨A, c, e1, -⟩ := hr.ref_inv; exact ⟨A, c, e1⟩
      · exact absurd rfl (hns _)
    simp [execOp, ho, resolve, invoke, builtin, Builtin.len_, run_underlying he, e1, goInt]
  · rename_i he
    obtain ⟨s, hs'⟩ := hs.2 he
    rw [hs'] at hx hr
    have e1 := hr.sc_inv
    have : s.size = n := by simpa [lenA] using hx
    simp [execOp, ho, resolve, invoke, builtin, Builtin.len_, run_underlying he, e1, goInt, this]
  · cases ht

theorem sim_min' {ats : Array TypeId} {x y : Operand} {k k' : IntKind} {m n : Int} (ho : o.op = .call { callee := .builtin .min, args := #[x, y], argTypes := ats })
    (hx : ev env x = .p (.sc (.int k m))) (hy : ev env y = .p (.sc (.int k' n))) : OpSim P nid E h w o a (.p (.sc (.int k (if n < m then n else m)))) h := by
  have e1 : a.eval x = .int k m := by have := Rep.ev henv x; rw [hx] at this; exact this.sc_inv
  have e2 : a.eval y = .int k' n := by have := Rep.ev henv y; rw [hy] at this; exact this.sc_inv
  refine OpSim.pure hw (val := .int k (if n < m then n else m)) ?_ (.p (.sc _))
  simp [execOp, ho, resolve, invoke, builtin, Builtin.min_, Builtin.min2, e1, e2]

theorem sim_max' {ats : Array TypeId} {x y : Operand} {k k' : IntKind} {m n : Int} (ho : o.op = .call { callee := .builtin .max, args := #[x, y], argTypes := ats })
    (hx : ev env x = .p (.sc (.int k m))) (hy : ev env y = .p (.sc (.int k' n))) : OpSim P nid E h w o a (.p (.sc (.int k (if n > m then n else m)))) h := by
  have e1 : a.eval x = .int k m := by have := Rep.ev henv x; rw [hx] at this; exact this.sc_inv
  have e2 : a.eval y = .int k' n := by have := Rep.ev henv y; rw [hy] at this; exact this.sc_inv
  refine OpSim.pure hw (val := .int k (if n > m then n else m)) ?_ (.p (.sc _))
  simp [execOp, ho, resolve, invoke, builtin, Builtin.max_, Builtin.max2, e1, e2]

/-! ### Loads -/

omit hw henv in
theorem icell_cell {I : Nat → Option Obj} (hi : ∀ g o, I g = some o → w.heap[g]? = some o) {ad : Addr} {v : Value} (hc : icell I ad = some v) : w.cell? ad = some v := by
  unfold icell at hc
  cases hI : I ad.block with
  | none => simp [hI] at hc
  | some ob =>
    rw [hI] at hc
    unfold World.cell?
    rw [hi _ _ hI]
    exact hc

omit hw henv in
theorem run_loadT {t : TypeId} {y : TyF} (ht : tyf P t = some y) {cells : List AV} {vs : List Value} {g base off : Nat} {x : AV} (hr : RepL E cells vs)
    (hc : ∀ k u, vs[k]? = some u → w.cell? ⟨g, base + k, none⟩ = some u) (hy : takeT y.agg y.size cells off = some x) :
    ∃ val, (loadVar t ⟨g, base + off, none⟩).run P w = .ok val w ∧ Rep E x val := by
  have hv := takeT_vals hr hy
  have hsz := run_sizeT ht w
  have hag := run_isAgg ht w
  cases hb : y.agg with
  | true =>
    obtain ⟨hle, hrr⟩ := hv.1 hb
    refine ⟨_, ?_, hrr⟩
    have hl : ((vs.drop off).take y.size).length = y.size := by simp; omega
    have := run_loadCells_list (P := P) w ⟨g, base + off, none⟩ ((vs.drop off).take y.size) (fun j v hj => by
      rw [add_mk, Nat.add_assoc]
      simp only [List.getElem?_take, List.getElem?_drop] at hj
      split at hj
      · exact hc _ _ hj
      · cases hj)
    rw [hl] at this
    simp [loadVar, hag, hb, hsz, this]
  | false =>
    obtain ⟨v, hv1, hrr⟩ := hv.2 hb
    refine ⟨v, ?_, hrr⟩
    simp [loadVar, hag, hb, run_load, hc off v hv1]

def loadA (h : AHeap) (y : TyF) : AV → Option AV
  | .ptr id off => match h id with
    | some (.box _ cells) => takeT y.agg y.size cells off
    | _ => none
  | .apt id sz i j => match h id with
    | some (.arr _ sz' rows) => if sz = sz' then (match rows[i]? with | some row => takeT y.agg y.size (row.map .p) j | none => none) else none
    | some (.fz rows) => match rows[i]? with
      | some row => if row.length = sz then takeT y.agg y.size (row.map .p) j else none
      | none => none
    | _ => none
  | .rpt row j => takeT y.agg y.size (row.map .p) j
  | _ => none

omit hw henv in
theorem load_run (hw : WOK E h w) {t : TypeId} {y : TyF} {z r : AV} {v : Value} (ht : tyf P t = some y) (hv : Rep E z v) (hr : loadA h y z = some r) :
    ∃ ad val, v = .pointer (some ad) ∧ (loadVar t ad).run P w = .ok val w ∧ Rep E r val := by
  have fin : ∀ (g base off : Nat) (cells : List AV) (vs : List Value), RepL E cells vs → (∀ k u, vs[k]? = some u → w.cell? ⟨g, base + k, none⟩ = some u) →
      takeT y.agg y.size cells off = some r → v = .pointer (some ⟨g, base + off, none⟩) → ∃ ad val, v = .pointer (some ad) ∧ (loadVar t ad).run P w = .ok val w ∧ Rep E r val := by
    intro g base off cells vs h1 h2 h3 h4
    obtain ⟨val, hrun, hrep⟩ := run_loadT (P := P) ht h1 h2 h3
    exact ⟨_, val, h4, hrun, hrep⟩
  unfold loadA at hr
  split at hr
  · rename_i id off
    split at hr
    · rename_i t' cells hid
      have hk := hw.ck id
      rw [hid] at hk
      obtain ⟨g, vs, e1, hg, hs, hcl, -⟩ := hk
      cases hv with
      | ptrd q hd => rw [e1] at hd; cases hd
      | ptr hb =>
        rw [e1] at hb
        injection hb with hb
        subst hb
        refine fin g 0 off cells vs.toList ⟨by simp [hs], fun i x hx => ?_⟩ (fun k u hu => ?_) hr (by simp)
        · obtain ⟨u, hu, hh⟩ := hcl i x hx; exact ⟨u, by simpa using hu, hh⟩
        · rw [Nat.zero_add, cell_of_row w g k vs t' (0, 0) hg]; simpa using hu
    · cases hr
  · rename_i id sz i j
    split at hr
    · rename_i e' sz' rows hid
      split at hr
      · rename_i hsz
        subst hsz
        split at hr
        · rename_i row hrow
          have hk := hw.ck id
          rw [hid] at hk
          obtain ⟨sv, e1, xs, hown, hlen, hxs, hone, -⟩ := hk
          cases hv with
          | aptd q hd => rw [e1] at hd; cases hd
          | @apt _ _ _ _ n c g off hb =>
            rw [e1] at hb
            injection hb with hb
            subst hb
            rcases hown.2 with ⟨hh, _⟩ | ⟨g', cap, cur, he, -, hg, hn, hm, hcs, htake⟩
            · cases hh
            · injection he with he1 he2 he3
              injection he1 with he1
              injection he1 with he1 he4
              subst he1; subst he4
              have hrl := hlen row (List.mem_of_getElem? hrow)
              have hil : i < rows.length := (List.getElem?_eq_some_iff.1 hrow).1
              have hle : i * sz + sz ≤ rows.length * sz := by
                have := Nat.mul_le_mul_right sz (show i + 1 ≤ rows.length by omega)
                rw [Nat.add_mul] at this; omega
              have hxl := hown.1
              refine fin g (0 + i * sz) j (row.map .p) ((xs.drop (i * sz)).take sz) ⟨by simp [hrl]; omega, fun k x hx => ?_⟩ (fun k u hu => ?_) hr rfl
              · simp only [List.getElem?_map] at hx
                cases hrk : row[k]? with
                | none => simp [hrk] at hx
                | some px =>
                  simp [hrk] at hx
                  subst hx
                  obtain ⟨u, hu, hh⟩ := hxs i k row px hrow hrk
                  have hkl : k < sz := by have := (List.getElem?_eq_some_iff.1 hrk).1; omega
                  exact ⟨u, by simp [hkl, hu], .p hh⟩
              · simp only [List.getElem?_take, List.getElem?_drop] at hu
                split at hu
                · rw [Nat.zero_add, cell_of_row w g _ cur e' (0, 0) hg]
                  rw [← htake, List.getElem?_take] at hu
                  split at hu
                  · simpa using hu
                  · cases hu
                · cases hu
        · cases hr
      · cases hr
    · rename_i rows hid
      split at hr
      · rename_i row hrow
        split at hr
        · rename_i hrl
          have hk := hw.ck id
          rw [hid] at hk
          obtain ⟨sv, e1, hI⟩ := hk
          have hil : i < rows.length := (List.getElem?_eq_some_iff.1 hrow).1
          cases hv with
          | aptd q hd => rw [e1] at hd; cases hd
          | @apt _ _ _ _ n c g off hb =>
            rw [e1] at hb
            injection hb with hb
            subst hb
            obtain ⟨g', off', hA, hg⟩ := hI.row hil
            injection hA with hA
            injection hA with hA1 hA2
            subst hA1; subst hA2
            obtain ⟨vs, h1, h2, h3⟩ := hg row hrow
            refine fin g (off + i * sz) j (row.map .p) ((List.range row.length).map vs) ⟨by simp, fun k x hx => ?_⟩ (fun k u hu => ?_) hr rfl
            · simp only [List.getElem?_map] at hx
              cases hrk : row[k]? with
              | none => simp [hrk] at hx
              | some px =>
                simp [hrk] at hx
                subst hx
                have hkl : k < row.length := (List.getElem?_eq_some_iff.1 hrk).1
                exact ⟨vs k, by simp [hkl], .p (h3 k px hrk)⟩
            · have hkl : k < row.length := by have := (List.getElem?_eq_some_iff.1 hu).1; simpa using this
              simp [hkl] at hu
              subst hu
              rw [← hrl]
              exact icell_cell hw.imm (h1 k hkl)
        · cases hr
      · cases hr
    · cases hr
  · rename_i row j
    cases hv with
    | rpt g off vs h1 h2 h3 =>
      refine fin g off j (row.map .p) ((List.range row.length).map vs) ⟨by simp, fun k x hx => ?_⟩ (fun k u hu => ?_) hr rfl
      · simp only [List.getElem?_map] at hx
        cases hrk : row[k]? with
        | none => simp [hrk] at hx
        | some px =>
          simp [hrk] at hx
          subst hx
          have hkl : k < row.length := (List.getElem?_eq_some_iff.1 hrk).1
          exact ⟨vs k, by simp [hkl], .p (h3 k px hrk)⟩
      · have hkl : k < row.length := by have := (List.getElem?_eq_some_iff.1 hu).1; simpa using this
        simp [hkl] at hu
        subst hu
        exact icell_cell hw.imm (h1 k hkl)
  · cases hr

theorem sim_load {t : TypeId} {y : TyF} {x : Operand} {r : AV} (ho : o.op = .load t x) (ht : tyf P t = some y) (hr : loadA h y (ev env x) = some r) : OpSim P nid E h w o a r h := by
  obtain ⟨ad, val, e1, hrun, hrep⟩ := load_run (P := P) hw ht (Rep.ev henv x) hr
  refine OpSim.pure hw (val := val) ?_ hrep
  simp [execOp, ho, e1, Instr.loadAt, Instr.sureAddr, hrun]

end

end Go.Ab
