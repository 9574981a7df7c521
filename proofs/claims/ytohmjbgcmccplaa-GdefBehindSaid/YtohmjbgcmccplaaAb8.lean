/- Abstract operations on memory: pieces of slices, make, append, freezing. No condition. -/
import Derived.Test.YtohmjbgcmccplaaAb7
set_option linter.unusedVariables false
set_option linter.unusedSimpArgs false
namespace Go.Ab
open Go

/-- A bound of a slice expression. -/
inductive BndIs (env : AEnv) (d : Nat) : Option Operand → Nat → Prop
  | none : BndIs env d none d
  | some {x : Operand} {k : IntKind} {i : Int} (h : ev env x = .p (.sc (.int k i))) (h0 : 0 ≤ i) : BndIs env d (some x) i.toNat

theorem RepI.piece {I : Nat → Option Obj} {rows : List (List PV)} {A : Option Addr} {n c sz : Nat} (h : RepI I (.fro rows) (.slice A n c)) (hsz : ∀ r, r ∈ rows → r.length = sz) {l k : Nat} (hl : l ≤ k) (hk : k ≤ rows.length) :
    RepI I (.fro ((rows.drop l).take (k - l))) (.slice (if c = l then A else A.map (·.add (l * sz))) (k - l) (c - l)) := by
  cases h with
  | fro sz' rows A g off c vs hA hc hr hcell h1 hrep =>
    have hlen : ((rows.drop l).take (k - l)).length = k - l := by simp; omega
    have hmem : ∀ r, r ∈ (rows.drop l).take (k - l) → r ∈ rows := fun r hr => List.mem_of_mem_drop (List.mem_of_mem_take hr)
    have key := RepI.fro (I := I) sz ((rows.drop l).take (k - l)) (if c = l then A else A.map (·.add (l * sz))) g (off + l * sz) (c - l) (fun i j => vs (l + i) j)
      (fun hp => by
        rw [hlen] at hp
        rw [if_neg (by omega), hA (by omega)]
        simp [add_mk]) (by rw [hlen]; omega) (fun r hr => hsz r (hmem r hr))
      (fun i j hi hj => by
        rw [hlen] at hi
        have hs : sz' = sz := by
          have h0 : rows[0]? = some rows[0] := List.getElem?_eq_getElem (by omega)
          have := hr _ (List.mem_of_getElem? h0)
          have := hsz _ (List.mem_of_getElem? h0)
          omega
        subst hs
        have := hcell (l + i) j (by omega) hj
        rw [Nat.add_mul, ← Nat.add_assoc] at this
        exact this)
      (fun i j hi hj => by
        rw [hlen] at hi
        have hs : sz' = sz := by
          have h0 : rows[0]? = some rows[0] := List.getElem?_eq_getElem (by omega)
          have := hr _ (List.mem_of_getElem? h0)
          have := hsz _ (List.mem_of_getElem? h0)
          omega
        subst hs
        exact h1 (l + i) j (by omega) hj)
      (fun i j r x hi hj => by
        simp only [List.getElem?_take, List.getElem?_drop] at hi
        split at hi
        · exact hrep (l + i) j r x hi hj
        · cases hi)
    rw [hlen] at key
    exact key

section
variable {P : Program} {nid : Nat} {E : Env} {h : AHeap} {w : World} {o : Oper} {a : Act} {env : AEnv}
variable (hw : WOK E h w) (henv : ∀ k, Rep E (env k) (a.tmps.getD k undef))
include hw henv

omit hw in
theorem run_bounds {lo hi : Option Operand} {isS : Bool} {n cap l k : Nat} (hlo : BndIs env 0 lo l) (hhi : BndIs env n hi k) (hl : l ≤ k) (hk : k ≤ cap) :
    (Instr.sliceBounds isS n cap (lo.map a.eval) (hi.map a.eval) none).run P w = .ok (l, k, cap) w := by
  have e : ∀ {x : Operand} {kd : IntKind} {i : Int}, ev env x = .p (.sc (.int kd i)) → a.eval x = .int kd i := fun hx => by have := Rep.ev henv ‹_›; rw [hx] at this; exact this.sc_inv
  cases hhi with
  | none =>
    cases hlo with
    | none => simp [Instr.sliceBounds]
    | some h2 h3 =>
      rename_i x2 k2 i2
      have hc2 : 0 ≤ i2 ∧ i2 ≤ (n : Int) := ⟨h3, by omega⟩
      simp [Instr.sliceBounds, e h2, Instr.sliceBound, asIntOf, hc2]
  | some h2 h3 =>
    rename_i x2 k2 i2
    have hc2 : 0 ≤ i2 ∧ i2 ≤ (cap : Int) := ⟨h3, by omega⟩
    cases hlo with
    | none => simp [Instr.sliceBounds, e h2, Instr.sliceBound, asIntOf, hc2]
    | some h4 h5 =>
      rename_i x3 k3 i3
      have hc3 : 0 ≤ i3 ∧ i3 ≤ (i2.toNat : Int) := ⟨h5, by omega⟩
      simp only [Instr.sliceBounds, Option.map_some, e h2, e h4, Instr.sliceBound, asIntOf, Sem.run_bind, Sem.run_pure, Result.andThen_ok, hc2, hc3, and_self, if_true, Option.isSome_none]

theorem sim_slice_fro {t e : TypeId} {y : TyF} {x : Operand} {lo hi : Option Operand} {rows : List (List PV)} {l k : Nat} (ho : o.op = .slice t x lo hi none) (ht : slE P t = some e) (hy : tyf P e = some y)
    (hx : ev env x = .p (.fro rows)) (hlo : BndIs env 0 lo l) (hhi : BndIs env rows.length hi k) (hl : l ≤ k) (hk : k ≤ rows.length) (hsz : ∀ r, r ∈ rows → r.length = y.size) :
    OpSim P nid E h w o a (.p (.fro ((rows.drop l).take (k - l)))) h := by
  have hr := Rep.ev henv x
  rw [hx] at hr
  obtain ⟨A, c, e1, hc, hI⟩ := hr.fro_inv
  refine OpSim.pure hw (val := .slice (if c = l then A else A.map (·.add (l * y.size))) (k - l) (c - l)) ?_ (.p (hI.piece hsz hl hk))
  have hb := run_bounds (P := P) (w := w) (a := a) henv (isS := true) (cap := c) hlo hhi hl (Nat.le_trans hk hc)
  have hs := run_sizeT hy w
  simp [execOp, ho, e1, Instr.sliceAt, Instr.slice, run_underlying (slE_spec ht), hb, hs]

def strT (P : Program) (t : TypeId) : Bool :=
  match P.underlying t with
  | some .string => true
  | _ => false

theorem sim_slice_str {t : TypeId} {x : Operand} {lo hi : Option Operand} {s : ByteArray} {l k : Nat} (ho : o.op = .slice t x lo hi none) (ht : strT P t = true)
    (hx : ev env x = .p (.sc (.string s))) (hlo : BndIs env 0 lo l) (hhi : BndIs env s.size hi k) (hl : l ≤ k) (hk : k ≤ s.size) :
    OpSim P nid E h w o a (.p (.sc (.string (s.extract l k)))) h := by
  have e1 : a.eval x = .string s := by have := Rep.ev henv x; rw [hx] at this; exact this.sc_inv
  refine OpSim.pure hw (val := .string (s.extract l k)) ?_ (.p (.sc _))
  have hb := run_bounds (P := P) (w := w) (a := a) henv (isS := false) (cap := s.size) hlo hhi hl hk
  unfold strT at ht
  split at ht
  · rename_i hu
    simp [execOp, ho, e1, Instr.sliceAt, Instr.slice, run_underlying hu, hb]
  · cases ht

/-- make([]T, n). -/
theorem sim_makeSlice {t e : TypeId} {y : TyF} {x x' : Operand} {kd kd' : IntKind} {n : Int} {zs : List PV} (hu : E.ch nid = .unborn) (ho : o.op = .makeSlice t x x') (ht : slE P t = some e) (hy : tyf P e = some y)
    (hx : ev env x = .p (.sc (.int kd n))) (hx' : ev env x' = .p (.sc (.int kd' n))) (h0 : 0 ≤ n) (hb : y.bytes * n.toNat ≤ 281474976710656) (hm : n.toNat ≤ maxLen) (hz : pvs (y.zero.cells.toList.map cst1) = some zs) (hzs : y.zero.cells.size = y.size)
    (hone : y.zero.cells.all (·.oneCell') = true) :
    OpSim P nid E h w o a (.ref nid n.toNat) (upd h nid (some (.arr e y.size (List.replicate n.toNat zs)))) := by
  have e1 : a.eval x = .int kd n := by have := Rep.ev henv x; rw [hx] at this; exact this.sc_inv
  have e2 : a.eval x' = .int kd' n := by have := Rep.ev henv x'; rw [hx'] at this; exact this.sc_inv
  obtain ⟨d, i, hd, hi, hzz, hs1, hs2, -⟩ := tyf_spec hy
  have hm' : n ≤ 9223372036854775807 := by unfold maxLen at hm; omega
  have hq : ((y.bytes * n.toNat : Nat) : Int) ≤ 281474976710656 := by omega
  rw [Int.natCast_mul, Int.toNat_of_nonneg h0, ← hs2] at hq
  have hrun := run_make (P := P) w t e i y.zero (slE_spec ht) hi hzz kd kd' n n h0 (Int.le_refl _) hq hm'
  obtain ⟨p1, p2⟩ := pvs_rep (E := E) (cst1_repL y.zero.cells.toList) hz
  have hzl : zs.length = y.size := by rw [p1]; simpa using hzs
  have key := sim_newArr (P := P) (o := o) (a := a) (te := e) (sz := y.size) (rows := List.replicate n.toNat zs) (cap := n.toNat) (vs := madeCells y.zero.cells (n.toNat * i.size)) hw hu (fun r hr => by rw [List.eq_of_mem_replicate hr]; exact hzl)
    (by rw [hs1]; simp [madeCells]) (by simp) hm ?_ ?_ ?_
  · simpa using key
  · intro i' j r x h1 h2
    have hi' : i' < n.toNat := by have := (List.getElem?_eq_some_iff.1 h1).1; simpa using this
    have hr : r = zs := by simpa [List.getElem?_replicate, hi'] using h1.symm
    subst hr
    obtain ⟨u, hu, hr⟩ := p2 j x h2
    have hj : j < y.size := by have := (List.getElem?_eq_some_iff.1 h2).1; omega
    have hlt : i' * y.size + y.size ≤ n.toNat * y.size := by
      have := Nat.mul_le_mul_right y.size (show i' + 1 ≤ n.toNat by omega)
      rw [Nat.add_mul] at this; omega
    refine ⟨u, ?_, hr⟩
    have hmod : (i' * y.size + j) % y.size = j := by rw [Nat.add_comm, Nat.add_mul_mod_self_right, Nat.mod_eq_of_lt hj]
    have hidx : i' * y.size + j < n.toNat * i.size := by rw [hs1]; omega
    have huu : y.zero.cells[j]? = some u := by simpa using hu
    have hlt : j < y.zero.cells.size := by omega
    simp [madeCells, hidx, hzs, hmod, hlt]
    simpa [hlt] using huu
  · intro u hu
    simp only [madeCells, Array.mem_map] at hu
    obtain ⟨k, hk, e⟩ := hu
    have hk' : k < n.toNat * i.size := by simpa using hk
    have hpos : 0 < y.size := by
      rcases Nat.eq_zero_or_pos y.size with h | h
      · rw [hs1, h] at hk'; omega
      · exact h
    have hlt : k % y.zero.cells.size < y.zero.cells.size := by rw [hzs]; exact Nat.mod_lt _ hpos
    subst e
    rw [getElem!_pos y.zero.cells _ hlt]
    exact Array.all_eq_true_iff_forall_mem.1 hone _ (Array.getElem_mem hlt)
  · simp only [List.length_replicate]
    unfold execOp
    simp only [ho, Sem.run_bind, e1, e2]
    rw [hrun]
    rfl
end

/-! ### append -/

/-- What is appended: its rows. -/
def srcRows (h : AHeap) : AV → Option (List (List PV))
  | .nil => some []
  | .p (.fro rows) => some rows
  | .ref id n => match h id with
    | some (.arr _ _ rows) => if rows.length = n then some rows else none
    | some (.fz rows) => if rows.length = n then some rows else none
    | _ => none
  | _ => none

theorem srcRows_rep {E : Env} {h : AHeap} {w : World} (hw : WOK E h w) {x : AV} {v : Value} {rows : List (List PV)} {sz : Nat} (hx : Rep E x v) (hr : srcRows h x = some rows) (hsz : ∀ r, r ∈ rows → r.length = sz) :
    ∃ A c, v = .slice A rows.length c ∧ ∃ news : List Value, news.length = rows.length * sz ∧ (∀ u, u ∈ news → u.oneCell' = true) ∧
      (∀ ad, A = some ad → ∀ j u, news[j]? = some u → w.cell? (ad.add j) = some u) ∧ (A = none → rows.length = 0) ∧
      ∀ (i j : Nat) (r : List PV) (x : PV), rows[i]? = some r → r[j]? = some x → ∃ u, news[i * sz + j]? = some u ∧ RepI E.I x u := by
  have nilcase : ∀ (A : Option Addr) (c : Nat), rows = [] → v = .slice A rows.length c → ∃ A c, v = .slice A rows.length c ∧ ∃ news : List Value, news.length = rows.length * sz ∧ (∀ u, u ∈ news → u.oneCell' = true) ∧
      (∀ ad, A = some ad → ∀ j u, news[j]? = some u → w.cell? (ad.add j) = some u) ∧ (A = none → rows.length = 0) ∧
      ∀ (i j : Nat) (r : List PV) (x : PV), rows[i]? = some r → r[j]? = some x → ∃ u, news[i * sz + j]? = some u ∧ RepI E.I x u := by
    intro A c e e2
    subst e
    exact ⟨A, c, e2, [], by simp, fun u hu => by simp at hu, fun ad _ j u hu => by simp at hu, fun _ => rfl, fun i j r x h => by simp at h⟩
  have fro : ∀ (A : Option Addr) (c : Nat), v = .slice A rows.length c → RepI E.I (.fro rows) (.slice A rows.length c) → ∃ A c, v = .slice A rows.length c ∧ ∃ news : List Value, news.length = rows.length * sz ∧ (∀ u, u ∈ news → u.oneCell' = true) ∧
      (∀ ad, A = some ad → ∀ j u, news[j]? = some u → w.cell? (ad.add j) = some u) ∧ (A = none → rows.length = 0) ∧
      ∀ (i j : Nat) (r : List PV) (x : PV), rows[i]? = some r → r[j]? = some x → ∃ u, news[i * sz + j]? = some u ∧ RepI E.I x u := by
    intro A c e hI
    cases hI with
    | fro sz' rows A g off c vs hA hc hr hcell h1 hrep =>
      rcases Nat.eq_zero_or_pos rows.length with h0 | h0
      · exact nilcase A c (List.eq_nil_of_length_eq_zero h0) e
      · have hs : sz' = sz := by
          have h0 : rows[0]? = some rows[0] := List.getElem?_eq_getElem h0
          have := hr _ (List.mem_of_getElem? h0)
          have := hsz _ (List.mem_of_getElem? h0)
          omega
        subst hs
        have hdm : ∀ j, j < rows.length * sz' → j / sz' < rows.length ∧ j % sz' < sz' := by
          intro j hj
          have hp : 0 < sz' := by
            rcases Nat.eq_zero_or_pos sz' with h | h
            · rw [h] at hj; omega
            · exact h
          exact ⟨(Nat.div_lt_iff_lt_mul hp).2 hj, Nat.mod_lt _ hp⟩
        refine ⟨A, c, e, (List.range (rows.length * sz')).map fun j => vs (j / sz') (j % sz'), by simp, fun u hu => ?_, fun ad had j u hu => ?_, fun hn => ?_, fun i j r x h2 h3 => ?_⟩
        · simp only [List.mem_map, List.mem_range] at hu
          obtain ⟨j, hj, rfl⟩ := hu
          exact h1 _ _ (hdm j hj).1 (hdm j hj).2
        · have hj : j < rows.length * sz' := by have := (List.getElem?_eq_some_iff.1 hu).1; simpa using this
          simp [hj] at hu
          subst hu
          have := hA h0
          rw [had] at this
          injection this with this
          subst this
          rw [add_mk]
          have := icell_cell (w := w) hw.imm (hcell (j / sz') (j % sz') (hdm j hj).1 (hdm j hj).2)
          rw [Nat.add_assoc, Nat.mul_comm, Nat.div_add_mod] at this
          exact this
        · rw [hA h0] at hn; cases hn
        · have hi : i < rows.length := (List.getElem?_eq_some_iff.1 h2).1
          have hj : j < sz' := by have := (List.getElem?_eq_some_iff.1 h3).1; have := hr r (List.mem_of_getElem? h2); omega
          have hlt : i * sz' + sz' ≤ rows.length * sz' := by
            have := Nat.mul_le_mul_right sz' (show i + 1 ≤ rows.length by omega)
            rw [Nat.add_mul] at this; omega
          refine ⟨vs i j, ?_, hrep i j r x h2 h3⟩
          have e1 : (i * sz' + j) / sz' = i := by rw [Nat.add_comm, Nat.add_mul_div_right _ _ (by omega), Nat.div_eq_of_lt hj, Nat.zero_add]
          have e2 : (i * sz' + j) % sz' = j := by rw [Nat.add_comm, Nat.add_mul_mod_self_right, Nat.mod_eq_of_lt hj]
          simp [show i * sz' + j < rows.length * sz' by omega, e1, e2]
  unfold srcRows at hr
  split at hr
  · injection hr with hr; subst hr; cases hx; exact nilcase none 0 rfl rfl
  · injection hr with hr; subst hr
    obtain ⟨A, c, e1, -, hI⟩ := hx.fro_inv
    exact fro A c e1 hI
  · rename_i id n
    obtain ⟨A, c, e1, hA, hd⟩ := hx.ref_inv
    have hk := hw.ck id
    split at hr
    · rename_i te sz' rows' hid
      split at hr
      · rename_i hn
        injection hr with hr
        subst hr
        subst hn
        rw [hid] at hk
        obtain ⟨sv, e2, xs, hown, hlen, hxs, hones, hnone⟩ := hk
        have hch : E.ch id = .sl (.slice A rows'.length c) := by
          rcases hd with hd | hd
          · exact hd
          · rw [hd] at e2; cases e2
        rw [hch] at e2
        injection e2 with e2
        subst e2
        rcases Nat.eq_zero_or_pos rows'.length with h0 | h0
        · exact nilcase A c (List.eq_nil_of_length_eq_zero h0) e1
        · have hs : sz' = sz := by
            have h0 : rows'[0]? = some rows'[0] := List.getElem?_eq_getElem h0
            have := hlen _ (List.mem_of_getElem? h0)
            have := hsz _ (List.mem_of_getElem? h0)
            omega
          subst hs
          refine ⟨A, c, e1, xs, hown.1, hones, fun ad had j u hu => ?_, fun hn => ?_, hxs⟩
          · obtain ⟨g, off, hh⟩ := hA h0
            rw [hh] at had
            injection had with had
            subst had
            subst hh
            have hoff : off = 0 := by
              rcases hown.2 with ⟨hh, _⟩ | ⟨g', cap, cur, he, _⟩
              · cases hh
              · injection he with he1; injection he1 with he1; injection he1
            subst hoff
            exact hown.cells (g := g) rfl j u hu
          · obtain ⟨g, off, hh⟩ := hA h0
            rw [hh] at hn; cases hn
      · cases hr
    · rename_i rows' hid
      split at hr
      · rename_i hn
        injection hr with hr
        subst hr
        subst hn
        rw [hid] at hk
        obtain ⟨sv, e2, hI⟩ := hk
        have hch : E.ch id = .sl (.slice A rows'.length c) := by
          rcases hd with hd | hd
          · exact hd
          · rw [hd] at e2; cases e2
        rw [hch] at e2
        injection e2 with e2
        subst e2
        exact fro A c e1 hI
      · cases hr
    · cases hr
  · cases hr

section
variable {P : Program} {nid : Nat} {E : Env} {h : AHeap} {w : World} {o : Oper} {a : Act} {env : AEnv}

/-- The elder array is given up: the new one is a chunk of its own. -/
theorem sim_appended {te : TypeId} {sz : Nat} {rows : List (List PV)} {id : Nat} {v v' : Value} {w' : World} (hw : WOK E h w) (hu : E.ch nid = .unborn)
    (hold : (h id = none ∧ v.ownBlock = none ∧ E.ch id = .dead) ∨ (Ck.owned (h id) = true ∧ E.ch id = .sl v)) (hne : id ≠ nid)
    (harr : ArrOK { E with ch := upd (upd E.ch id .dead) nid (.sl v') } w' te sz rows v') (hgr : w.grownBy w' v.ownBlock) (hat : v'.ownBlock = v.ownBlock ∨ v'.ownBlock = some w.heap.size)
    (hform : ∃ A c, v' = .slice A rows.length c ∧ (0 < rows.length → ∃ g off, A = some ⟨g, off, none⟩))
    (hrun : (execOp a.eval o).run P w = .ok (.value v') w') :
    OpSim P nid E h w o a (.ref nid rows.length) (upd (upd h id none) nid (some (.arr te sz rows))) := by
  have hch : E.ch id ≠ .unborn := by rcases hold with ⟨_, _, e⟩ | ⟨_, e⟩ <;> rw [e] <;> intro h <;> cases h
  have hst : EStep nid E { E with ch := upd (upd E.ch id .dead) nid (.sl v') } := ⟨.refl _, fun i hi => by
    show upd (upd E.ch id .dead) nid (.sl v') i = _ ∨ _
    rw [upd_other _ _ hi]
    by_cases e : i = id
    · subst e; right
      refine ⟨?_, hch⟩
      show upd (upd E.ch i .dead) nid (.sl v') i = _
      rw [upd_other _ _ hi, upd_same]
    · left; rw [upd_other _ _ e]⟩
  have hle := hst.le hu
  have hb : ∀ g, g < w.heap.size → v.ownBlock ≠ some g → w'.heap[g]? = w.heap[g]? := fun g hg hn => hgr.block g hg (Ne.symm hn)
  have hvb : ∀ g, v.ownBlock = some g → own E h g ∧ E.I g = none := by
    intro g hg
    rcases hold with ⟨_, e, _⟩ | ⟨e1, e2⟩
    · rw [e] at hg; cases hg
    · have hb : (E.ch id).block = some g := by rw [e2, ← ownBlock_eq]; exact hg
      exact ⟨⟨id, e1, hb⟩, (hw.ck id).immNone e1 hb⟩
  have hother : ∀ i g, i ≠ id → Ck.owned (h i) = true → (E.ch i).block = some g → v.ownBlock ≠ some g := by
    intro i g hi ho hg hv
    rcases hold with ⟨_, e, _⟩ | ⟨e1, e2⟩
    · rw [e] at hv; cases hv
    · exact hw.dist i id g hi ho e1 hg (by rw [e2, ← ownBlock_eq]; exact hv)
  obtain ⟨A, c, he, hA⟩ := hform
  have hrep : ∀ E2 : Env, E2.ch nid = .sl v' → Rep E2 (.ref nid rows.length) v' := by
    intro E2 h2
    rw [he] at h2 ⊢
    exact .ref h2 hA
  refine ⟨v', w', _, .inl hrun, ?_, hst, ⟨fun g ob e => ?_, fun i => ?_, fun i j g hij h1 h2 e1 => ?_⟩, ⟨hgr.size, fun g hg hn => hb g hg (fun e => hn (hvb g e).1), fun _ _ e => .inl e, fun g e => ?_, hgr.os, hgr.output⟩⟩
  · exact hrep _ (upd_same _ _ _)
  · have := hw.imm g ob e
    rw [hb g (Array.getElem?_eq_some_iff.1 this).1 (fun e2 => by rw [(hvb g e2).2] at e; cases e)]
    exact this
  · show CkOK _ w' (upd (upd E.ch id .dead) nid (.sl v') i) _
    by_cases e1 : i = nid
    · subst e1
      rw [upd_same, upd_same]
      exact ⟨v', rfl, harr⟩
    · rw [upd_other _ _ e1, upd_other _ _ e1]
      by_cases e2 : i = id
      · subst e2; rw [upd_same, upd_same]; trivial
      · rw [upd_other _ _ e2, upd_other _ _ e2]
        exact (hw.ck i).keep hle (fun h1 g e3 => hb g ((hw.ck i).there h1 e3) (hother i g e2 h1 e3)) (fun h1 g e3 => (hw.ck i).immNone h1 e3)
  · replace e1 : (upd (upd E.ch id .dead) nid (.sl v') i).block = some g := e1
    show (upd (upd E.ch id .dead) nid (.sl v') j).block ≠ some g
    have aux : ∀ k g', k ≠ nid → Ck.owned (upd (upd h id none) nid (some (.arr te sz rows)) k) = true → (upd (upd E.ch id .dead) nid (.sl v') k).block = some g' → k ≠ id ∧ Ck.owned (h k) = true ∧ (E.ch k).block = some g' := by
      intro k g' hk ho hg
      rw [upd_other _ _ hk] at ho hg
      by_cases e : k = id
      · subst e; rw [upd_same] at ho; cases ho
      · rw [upd_other _ _ e] at ho hg; exact ⟨e, ho, hg⟩
    have new : ∀ k g', k ≠ nid → Ck.owned (upd (upd h id none) nid (some (.arr te sz rows)) k) = true → (upd (upd E.ch id .dead) nid (.sl v') k).block = some g' → v'.ownBlock ≠ some g' := by
      intro k g' hk ho hg hv
      obtain ⟨q1, q2, q3⟩ := aux k g' hk ho hg
      rcases hat with e | e
      · rw [e] at hv; exact hother k g' q1 q2 q3 hv
      · rw [e] at hv
        injection hv with hv
        have := (hw.ck k).there q2 q3
        omega
    by_cases ei : i = nid
    · subst ei
      rw [upd_same, ← ownBlock_eq] at e1
      intro e2
      exact new j g (Ne.symm hij) h2 e2 e1
    · by_cases ej : j = nid
      · subst ej
        rw [upd_same, ← ownBlock_eq]
        exact new i g ei h1 e1
      · intro e2
        obtain ⟨q1, q2, q3⟩ := aux i g ei h1 e1
        obtain ⟨r1, r2, r3⟩ := aux j g ej h2 e2
        exact hw.dist i j g hij q2 r2 q3 r3
  · obtain ⟨i, h1, h2⟩ := e
    replace h2 : (upd (upd E.ch id .dead) nid (.sl v') i).block = some g := h2
    by_cases ei : i = nid
    · subst ei
      rw [upd_same, ← ownBlock_eq] at h2
      rcases hat with e | e
      · rw [e] at h2; exact .inr (hvb g h2).1
      · rw [e] at h2; injection h2 with h2; omega
    · rw [upd_other _ _ ei] at h1 h2
      by_cases e2 : i = id
      · subst e2; rw [upd_same] at h1; cases h1
      · rw [upd_other _ _ e2] at h1 h2; exact .inr ⟨i, h1, h2⟩

theorem append_rows {E' : Env} {rows rows2 : List (List PV)} {xs news : List Value} {sz : Nat} (hI : ILe E.I E'.I) (hxl : xs.length = rows.length * sz) (hs : ∀ r, r ∈ rows → r.length = sz) (hs2 : ∀ r, r ∈ rows2 → r.length = sz)
    (hx : ∀ (i j : Nat) (r : List PV) (x : PV), rows[i]? = some r → r[j]? = some x → ∃ u, xs[i * sz + j]? = some u ∧ RepI E.I x u)
    (hn : ∀ (i j : Nat) (r : List PV) (x : PV), rows2[i]? = some r → r[j]? = some x → ∃ u, news[i * sz + j]? = some u ∧ RepI E.I x u) :
    ∀ (i j : Nat) (r : List PV) (x : PV), (rows ++ rows2)[i]? = some r → r[j]? = some x → ∃ u, (xs ++ news)[i * sz + j]? = some u ∧ RepI E'.I x u := by
  intro i j r x h1 h2
  by_cases hi : i < rows.length
  · rw [List.getElem?_append_left hi] at h1
    obtain ⟨u, hu, hr⟩ := hx i j r x h1 h2
    exact ⟨u, by rw [List.getElem?_append_left (List.getElem?_eq_some_iff.1 hu).1]; exact hu, hr.mono hI⟩
  · rw [List.getElem?_append_right (by omega)] at h1
    obtain ⟨u, hu, hr⟩ := hn _ j r x h1 h2
    have hle : rows.length * sz ≤ i * sz := Nat.mul_le_mul_right sz (by omega)
    refine ⟨u, ?_, hr.mono hI⟩
    rw [List.getElem?_append_right (by omega), hxl, ← hu]
    congr 1
    rw [Nat.sub_mul]
    omega

theorem sim_append {t e : TypeId} {y : TyF} {s x : Operand} {id n : Nat} {rows rows2 : List (List PV)} (hw : WOK E h w) (henv : ∀ k, Rep E (env k) (a.tmps.getD k undef)) (hu : E.ch nid = .unborn)
    (ho : o.op = .call { callee := .builtin .append, args := #[s, x], argTypes := #[t, t] }) (ht : slE P t = some e) (hy : tyf P e = some y) (hzs : y.zero.cells.size = y.size) (hpos : 0 < y.size)
    (hs : ev env s = .ref id n) (hid : h id = some (.arr e y.size rows)) (hn : rows.length = n)
    (hx : srcRows h (ev env x) = some rows2) (hsz2 : ∀ r, r ∈ rows2 → r.length = y.size) (hm : (n + rows2.length) * y.bytes ≤ 140737488355328) (hm2 : n + rows2.length ≤ maxLen) :
    OpSim P nid E h w o a (.ref nid (n + rows2.length)) (upd (upd h id none) nid (some (.arr e y.size (rows ++ rows2)))) := by
  subst hn
  obtain ⟨d, i, hd, hi, hz, hs1, hb1, -⟩ := tyf_spec hy
  have hne : id ≠ nid := fun e => by subst e; have := hw.ck id; rw [hid] at this; exact this.born hu
  have hk := hw.ck id
  rw [hid] at hk
  obtain ⟨sv, e1, xs, hown, hlen, hxs, hones, hnone⟩ := hk
  have hv := Rep.ev henv s
  rw [hs] at hv
  obtain ⟨A0, c0, ea, hA0, hd0⟩ := hv.ref_inv
  have esv : a.eval s = sv := by
    rcases hd0 with hh | hh
    · rw [e1] at hh; injection hh with hh; rw [ea, hh]
    · rw [e1] at hh; cases hh
  obtain ⟨A, c, eb, news, hnl, hn1, hnc, hnz, hnr⟩ := srcRows_rep hw (Rep.ev henv x) hx hsz2
  have hform : ∀ {w' : World} {v' : Value} {ys : List Value}, w'.ownsRow 0 e y.size v' (rows.length + rows2.length) ys → ∃ A c, v' = .slice A (rows ++ rows2).length c ∧ (0 < (rows ++ rows2).length → ∃ g off, A = some ⟨g, off, none⟩) := by
    intro w' v' ys hh
    rcases hh.2 with ⟨rfl, h0⟩ | ⟨g, cap, cur, rfl, _⟩
    · exact ⟨none, 0, by rw [List.length_append, h0], fun hp => by rw [List.length_append] at hp; omega⟩
    · exact ⟨_, cap, by rw [List.length_append], fun _ => ⟨g, 0, rfl⟩⟩
  have fin : ∀ (v' : Value) (w' : World), (Builtin.append_ #[t, t] o.type #[sv, .slice A rows2.length c]).run P w = .ok v' w' → w'.ownsRow 0 e y.size v' (rows.length + rows2.length) (xs ++ news) → w.grownBy w' sv.ownBlock →
      (v'.ownBlock = sv.ownBlock ∨ v'.ownBlock = some w.heap.size) → OpSim P nid E h w o a (.ref nid (rows.length + rows2.length)) (upd (upd h id none) nid (some (.arr e y.size (rows ++ rows2)))) := by
    intro v' w' hr h2 h3 h4
    rw [← List.length_append]
    refine sim_appended hw hu (.inr ⟨by rw [hid]; rfl, e1⟩) hne ?_ h3 h4 (hform h2) ?_
    · refine ⟨xs ++ news, by rw [List.length_append]; exact h2, fun r hr => ?_, append_rows (.refl _) hown.1 hlen hsz2 hxs hnr, fun u hu => ?_, fun g hg => ?_⟩
      · rcases List.mem_append.1 hr with hr | hr
        · exact hlen r hr
        · exact hsz2 r hr
      · rcases List.mem_append.1 hu with hu | hu
        · exact hones u hu
        · exact hn1 u hu
      · rcases h4 with e4 | e4
        · exact hnone g (by rw [← e4]; exact hg)
        · rw [e4] at hg
          injection hg with hg
          subst hg
          show E.I w.heap.size = none
          cases hi : E.I w.heap.size with
          | none => rfl
          | some ob => have := (Array.getElem?_eq_some_iff.1 (hw.imm _ _ hi)).1; omega
    · unfold execOp
      simp only [ho, resolve, invoke, builtin, Sem.run_bind, Sem.run_pure, Result.andThen_ok, List.map_toArray, List.map_cons, List.map_nil, esv, eb]
      rw [hr]
      rfl
  cases A with
  | none =>
    have h0 := hnz rfl
    have hr0 : rows2 = [] := List.eq_nil_of_length_eq_zero h0
    subst hr0
    have hnn : news = [] := List.eq_nil_of_length_eq_zero (by simpa using hnl)
    subst hnn
    have hr : (Builtin.append_ #[t, t] o.type #[sv, .slice none 0 c]).run P w = .ok sv w := by
      rcases hown.2 with ⟨rfl, hx0⟩ | ⟨g, cap, cur, rfl, _, _, hnc, _⟩
      · simp [Builtin.append_, run_underlying (slE_spec ht), sizeOf, typeInfo, hi, Builtin.lenOf, Builtin.firstCells]
      · simp [Builtin.append_, run_underlying (slE_spec ht), sizeOf, typeInfo, hi, Builtin.lenOf, Builtin.firstCells, hnc, storeCells]
    exact fin sv w hr (by simpa using hown) (World.grownBy.refl w _) (.inl rfl)
  | some ad =>
    obtain ⟨v', w', hr, h2, h3, -, h5⟩ := run_append_own_at (P := P) (w := w) 0 t o.type e i y.zero y.size y.bytes (slE_spec ht) hi hz hs1 hb1 hzs hpos sv rows.length xs hown ad rows2.length c news hnl (hnc ad rfl) hn1 hm2 hm (Nat.zero_le _)
    exact fin v' w' hr h2 h3 h5

theorem sim_append_nil {t e : TypeId} {y : TyF} {s x : Operand} {rows2 : List (List PV)} (hw : WOK E h w) (henv : ∀ k, Rep E (env k) (a.tmps.getD k undef)) (hu : E.ch nid = .unborn)
    (ho : o.op = .call { callee := .builtin .append, args := #[s, x], argTypes := #[t, t] }) (ht : slE P t = some e) (hy : tyf P e = some y) (hzs : y.zero.cells.size = y.size) (hpos : 0 < y.size)
    (hs : ev env s = .nil)
    (hx : srcRows h (ev env x) = some rows2) (hsz2 : ∀ r, r ∈ rows2 → r.length = y.size) (hm : rows2.length * y.bytes ≤ 140737488355328) (hm2 : rows2.length ≤ maxLen) :
    OpSim P nid E h w o a (.ref nid rows2.length) (upd h nid (some (.arr e y.size rows2))) := by
  obtain ⟨d, i, hd, hi, hz, hs1, hb1, -⟩ := tyf_spec hy
  have hv := Rep.ev henv s
  rw [hs] at hv
  have esv : a.eval s = .slice none 0 0 := by generalize a.eval s = v at hv; cases hv; rfl
  obtain ⟨A, c, eb, news, hnl, hn1, hnc, hnz, hnr⟩ := srcRows_rep hw (Rep.ev henv x) hx hsz2
  have hown : w.ownsRow 0 e y.size (.slice none 0 0) 0 [] := ⟨by simp, .inl ⟨rfl, rfl⟩⟩
  have fin : ∀ (v' : Value) (w' : World), (Builtin.append_ #[t, t] o.type #[.slice none 0 0, .slice A rows2.length c]).run P w = .ok v' w' → w'.ownsRow 0 e y.size v' rows2.length news → w.grownBy w' none →
      (v'.ownBlock = none ∨ v'.ownBlock = some w.heap.size) → OpSim P nid E h w o a (.ref nid rows2.length) (upd h nid (some (.arr e y.size rows2))) := by
    intro v' w' hr h2 h3 h4
    have hle : ELe E { E with ch := upd E.ch nid (.sl v') } := (EStep.new E nid _).le hu
    have hci : ∀ g, (ChI.sl v').block = some g → w.heap.size ≤ g := fun g hg => by
      rw [← ownBlock_eq] at hg
      rcases h4 with e4 | e4
      · rw [e4] at hg; cases hg
      · rw [e4] at hg; injection hg with hg; omega
    have hb : ∀ g, g < w.heap.size → w'.heap[g]? = w.heap[g]? := fun g hg => h3.block g hg (by simp)
    refine ⟨v', w', { E with ch := upd E.ch nid (.sl v') }, .inl ?_, ?_, .new E nid _, hw.new hu h3.size hb hci ⟨v', rfl, news, h2, hsz2, hnr, hn1, fun g hg => ?_⟩, .new h3.size hb hci ⟨h3.os, h3.output⟩⟩
    · unfold execOp
      simp only [ho, resolve, invoke, builtin, Sem.run_bind, Sem.run_pure, Result.andThen_ok, List.map_toArray, List.map_cons, List.map_nil, esv, eb]
      rw [hr]
      rfl
    · rcases h2.2 with ⟨rfl, h0⟩ | ⟨g, cap, cur, rfl, _⟩
      · rw [h0]; exact .ref (upd_same _ _ _) (fun hp => absurd hp (by omega))
      · exact .ref (upd_same _ _ _) (fun _ => ⟨g, 0, rfl⟩)
    · show E.I g = none
      rcases h4 with e4 | e4
      · rw [e4] at hg; cases hg
      · rw [e4] at hg
        injection hg with hg
        subst hg
        cases hi : E.I w.heap.size with
        | none => rfl
        | some ob => have := (Array.getElem?_eq_some_iff.1 (hw.imm _ _ hi)).1; omega
  cases A with
  | none =>
    have h0 := hnz rfl
    have hr0 : rows2 = [] := List.eq_nil_of_length_eq_zero h0
    subst hr0
    have hnn : news = [] := List.eq_nil_of_length_eq_zero (by simpa using hnl)
    subst hnn
    have hr : (Builtin.append_ #[t, t] o.type #[.slice none 0 0, .slice none 0 c]).run P w = .ok (.slice none 0 0) w := by
      simp [Builtin.append_, run_underlying (slE_spec ht), sizeOf, typeInfo, hi, Builtin.lenOf, Builtin.firstCells]
    exact fin _ w hr hown (World.grownBy.refl w _) (.inl rfl)
  | some ad =>
    obtain ⟨v', w', hr, h2, h3, -, h5⟩ := run_append_own_at (P := P) (w := w) 0 t o.type e i y.zero y.size y.bytes (slE_spec ht) hi hz hs1 hb1 hzs hpos (.slice none 0 0) 0 [] hown ad rows2.length c news hnl (hnc ad rfl) hn1 (by simpa using hm2) (by simpa using hm) (Nat.zero_le _)
    exact fin v' w' hr (by simpa using h2) h3 h5
end

end Go.Ab
