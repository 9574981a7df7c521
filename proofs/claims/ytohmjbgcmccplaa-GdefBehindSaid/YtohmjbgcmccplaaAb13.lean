/- Weaker states, freezing, a function's begin and end. No condition. -/
import Derived.Test.YtohmjbgcmccplaaAb12
set_option linter.unusedVariables false
set_option linter.unusedSimpArgs false
namespace Go.Ab
open Go

/-! ### A nil slice is an empty one -/

mutual
def norm : AV → AV
  | .any => .any
  | .nil => .p (.fro [])
  | .p x => .p x
  | .ptr id off => .ptr id off
  | .ref id n => .ref id n
  | .apt id sz i j => .apt id sz i j
  | .rpt row j => .rpt row j
  | .fn f xs => .fn f xs
  | .agg xs => .agg (normL xs)
  | .tup xs => .tup (normL xs)
def normL : List AV → List AV
  | [] => []
  | x :: xs => norm x :: normL xs
end

theorem normL_eq : ∀ xs, normL xs = xs.map norm
  | [] => rfl
  | x :: xs => by rw [normL, normL_eq xs]; rfl

theorem Rep.norm {E : Env} {x : AV} {v : Value} (h : Rep E x v) : Rep E (norm x) v := by
  induction h with
  | nil => exact .p .nil
  | any v => exact .any v
  | p h => exact .p h
  | ptr h => exact .ptr h
  | ptrd q h => exact .ptrd q h
  | ref h hA => exact .ref h hA
  | refd A c h hA => exact .refd A c h hA
  | apt h => exact .apt h
  | aptd q h => exact .aptd q h
  | rpt g off vs h1 h2 h3 => exact .rpt g off vs h1 h2 h3
  | fn vs hs u hu h _ => exact .fn vs hs u hu h
  | @agg xs vs hs u hu _ ih =>
    rw [Ab.norm, normL_eq]
    refine .agg vs (by simpa using hs) u (fun i hi => hu i (by simpa using hi)) (fun i x hx => ?_)
    rw [List.getElem?_map] at hx
    cases hy : xs[i]? with
    | none => rw [hy] at hx; cases hx
    | some y => rw [hy] at hx; injection hx with hx; subst hx; exact ih i y hy
  | @tup xs vs hs u hu _ ih =>
    rw [Ab.norm, normL_eq]
    refine .tup vs (by simpa using hs) u (fun i hi => hu i (by simpa using hi)) (fun i x hx => ?_)
    rw [List.getElem?_map] at hx
    cases hy : xs[i]? with
    | none => rw [hy] at hx; cases hx
    | some y => rw [hy] at hx; injection hx with hx; subst hx; exact ih i y hy

theorem RepL.norm {E : Env} {xs : List AV} {vs : List Value} (h : RepL E xs vs) : RepL E (normL xs) vs := by
  rw [normL_eq]
  refine ⟨by simpa using h.1, fun i x hx => ?_⟩
  rw [List.getElem?_map] at hx
  cases hy : xs[i]? with
  | none => rw [hy] at hx; cases hx
  | some y =>
    rw [hy] at hx
    injection hx with hx
    subst hx
    obtain ⟨v, hv, hr⟩ := h.2 i y hy
    exact ⟨v, hv, hr.norm⟩

/-! ### Weaker states -/

/-- What a slot says less, under other numbers. -/
def AVLe (ρ : Nat → Nat) (n : Nat) (x x' : AV) : Prop := x' = .any ∨ (x = ren ρ x' ∧ idsLt n x') ∨ (norm x = x' ∧ idsLt 0 x')

theorem AVLe.rep {ρ : Nat → Nat} {n : Nat} {x x' : AV} {E : Env} {v : Value} (h : AVLe ρ n x x') (hr : Rep E x v) : Rep (pull ρ n E) x' v := by
  rcases h with rfl | ⟨h1, h2⟩ | ⟨h1, h2⟩
  · exact .any _
  · exact hr.pull x' h1 h2
  · exact (h1 ▸ hr.norm : Rep E x' v).free (.refl _) h2

/-- Slots, one by one. -/
def mkE : List (Nat × AV) → AEnv
  | [] => fun _ => .any
  | (k, x) :: l => upd (mkE l) k x
def mkH : List (Nat × Ck) → AHeap
  | [] => fun _ => none
  | (i, c) :: l => upd (mkH l) i (some c)

def AllE (ρ : Nat → Nat) (n : Nat) (env : AEnv) : List (Nat × AV) → Prop
  | [] => True
  | (k, x) :: l => AVLe ρ n (env k) x ∧ AllE ρ n env l
def AllH (ρ : Nat → Nat) (n : Nat) (h : AHeap) : List (Nat × Ck) → Prop
  | [] => True
  | (i, c) :: l => (i < n ∧ h (ρ i) = some (renCk ρ c) ∧ idsLtCk n (some c)) ∧ AllH ρ n h l

theorem AllE.at_ {ρ : Nat → Nat} {n : Nat} {env : AEnv} : ∀ {l : List (Nat × AV)}, AllE ρ n env l → ∀ k, AVLe ρ n (env k) (mkE l k)
  | [], _, k => .inl rfl
  | (k', x) :: l, h, k => by
    show AVLe ρ n (env k) (upd (mkE l) k' x k)
    by_cases e : k = k'
    · subst e; rw [upd_same]; exact h.1
    · rw [upd_other _ _ e]; exact AllE.at_ h.2 k

theorem AllH.at_ {ρ : Nat → Nat} {n : Nat} {h : AHeap} : ∀ {l : List (Nat × Ck)}, AllH ρ n h l → ∀ i, (mkH l i = none ∨ (i < n ∧ h (ρ i) = (mkH l i).map (renCk ρ))) ∧ idsLtCk n (mkH l i)
  | [], _, i => ⟨.inl rfl, trivial⟩
  | (i', c) :: l, hh, i => by
    show (upd (mkH l) i' (some c) i = none ∨ _) ∧ idsLtCk n (upd (mkH l) i' (some c) i)
    by_cases e : i = i'
    · subst e
      rw [upd_same]
      refine ⟨.inr ⟨hh.1.1, ?_⟩, hh.1.2.2⟩
      rw [hh.1.2.1]
      simp [mkH, upd_same]
    · rw [upd_other _ _ e]
      have := AllH.at_ hh.2 i
      refine ⟨?_, this.2⟩
      rcases this.1 with e1 | ⟨e1, e2⟩
      · exact .inl e1
      · refine .inr ⟨e1, ?_⟩
        rw [e2]
        simp [mkH, upd_other _ _ e]

theorem mkH_mem : ∀ {lh : List (Nat × Ck)} (i : Nat), mkH lh i ≠ none → i ∈ lh.map (·.1)
  | [], i, h => absurd rfl h
  | (k, c) :: l, i, h => by
    by_cases e : i = k
    · subst e; simp
    · have : mkH l i ≠ none := by
        rw [mkH, upd_other _ _ e] at h
        exact h
      have := mkH_mem i this
      simp only [List.map_cons, List.mem_cons]
      exact .inr this

structure WeakR (m : Nat) (ρ : Nat → Nat) (n : Nat) (ks : List Nat) : Prop where
  pin : ∀ i, i < m → ρ i = i
  inj : ∀ i j, i ∈ ks → j ∈ ks → i ≠ j → ρ i ≠ ρ j
  le : m ≤ n

theorem WeakR.id {m n : Nat} {ks : List Nat} (h : m ≤ n) : WeakR m (fun i => i) n ks := ⟨fun _ _ => rfl, fun _ _ _ _ h => h, h⟩

theorem weak_sim {nt m nb nb' : Nat} {ρ : Nat → Nat} {E : Env} {env env' : AEnv} {h h' : AHeap} {a : Act} {w : World} {ks : List Nat} (hr : WeakR m ρ nb' ks) (hks : ∀ i, h' i ≠ none → i ∈ ks) (hs : Sim nt E env h nb a w)
    (he : ∀ k, AVLe ρ nb' (env k) (env' k)) (hh : ∀ i, (h' i = none ∨ (i < nb' ∧ h (ρ i) = (h' i).map (renCk ρ))) ∧ idsLtCk nb' (h' i)) :
    Sim nt (pull ρ nb' E) env' h' nb' a w ∧ Evol m E h w (pull ρ nb' E) h' w := by
  have hl : ∀ i, i < nb' → h' i = none ∨ h (ρ i) = (h' i).map (renCk ρ) := fun i hi => by
    rcases (hh i).1 with e | ⟨_, e⟩
    · exact .inl e
    · exact .inr e
  have hn : ∀ i, nb' ≤ i → h' i = none := fun i hi => by
    rcases (hh i).1 with e | ⟨e, _⟩
    · exact e
    · omega
  refine ⟨⟨hs.ok.pull hl hn (fun i => (hh i).2) (fun i j hi hj => hr.inj i j (hks i hi) (hks j hj)), fun k => (he k).rep (hs.env k), fun id hid => by simp [pull, Nat.not_lt.2 hid], hs.size, hs.defers⟩, ⟨.refl _, fun id hid => ?_, Nat.le_refl _, fun _ _ _ => rfl, fun _ _ e => .inl e, fun g ho => .inr ?_, rfl, rfl⟩⟩
  · left
    rw [pull_ch (Nat.lt_of_lt_of_le hid hr.le), hr.pin id hid]
  · obtain ⟨i, _, h1, h2⟩ := own_pull hl hn ho
    exact ⟨_, h1, h2⟩

section
variable {P : Program} {nt m nb : Nat} {env : AEnv} {h : AHeap} {Q : AQ}

theorem c_weak {c : Code} (ρ : Nat → Nat) (le : List (Nat × AV)) (lh : List (Nat × Ck)) (nb' : Nat) (hr : WeakR m ρ nb' (lh.map (·.1))) (he : AllE ρ nb' env le) (hh : AllH ρ nb' h lh)
    (hc : ACode P nt m c (mkE le) (mkH lh) nb' Q) : ACode P nt m c env h nb Q := by
  intro E a w hs hm
  obtain ⟨h1, h2⟩ := weak_sim hr mkH_mem hs he.at_ hh.at_
  refine wp_mono (hc _ a w h1 hr.le) fun e a' w' ⟨E', x, env', h', nb', g1, g2, g3, g4, g5⟩ => ⟨E', x, env', h', nb', g1, g2, g3, g4, h2.trans g5⟩

/-- A loop whose rounds' heads are states of one family, told slot by slot. -/
theorem c_loop_at {c : Code} {ι : Type} (le : ι → List (Nat × AV)) (lh : ι → List (Nat × Ck)) (n : Nat) (I : ι → Prop) (μ : ι → Nat)
    (i0 : ι) (hi0 : I i0) (h0 : ∃ ρ, WeakR m ρ n ((lh i0).map (·.1)) ∧ AllE ρ n env (le i0) ∧ AllH ρ n h (lh i0))
    (round : ∀ i, I i → ACode P nt m c (mkE (le i)) (mkH (lh i)) n (thenA (fun env h nb => ∃ j, (I j ∧ μ j < μ i) ∧ ∃ ρ, WeakR m ρ n ((lh j).map (·.1)) ∧ AllE ρ n env (le j) ∧ AllH ρ n h (lh j)) Q)) :
    ACode P nt m (.loop c) env h nb Q := by
  refine c_loop (ι := { i : ι // I i }) (fun i => (mkE (le i.1), mkH (lh i.1), n)) (fun i => μ i.1) (fun env h nb i => ∃ ρ, WeakR m ρ n ((lh i.1).map (·.1)) ∧ AllE ρ n env (le i.1) ∧ AllH ρ n h (lh i.1)) ?_ ⟨i0, hi0⟩ h0 ?_
  · intro env h nb i hp E a w hs hm
    obtain ⟨ρ, hr, he, hh⟩ := hp
    obtain ⟨h1, h2⟩ := weak_sim hr mkH_mem hs he.at_ hh.at_
    exact ⟨_, h1, hr.le, h2⟩
  · intro i
    refine (round i.1 i.2).mono fun x env h nb hq => ?_
    cases x with
    | normal => obtain ⟨j, ⟨hj, hlt⟩, hp⟩ := hq; exact ⟨⟨j, hj⟩, hlt, hp⟩
    | _ => exact hq

theorem c_cut {c : Code} {ι : Type} {K : AEnv → AHeap → Nat → Prop} (le : ι → List (Nat × AV)) (lh : ι → List (Nat × Ck)) (n : Nat) (I : ι → Prop)
    (hc : ACode P nt m c env h nb (thenA (fun env h nb => ∃ j, I j ∧ ∃ ρ, WeakR m ρ n ((lh j).map (·.1)) ∧ AllE ρ n env (le j) ∧ AllH ρ n h (lh j)) Q)) (d : Code)
    (hK : ∀ env h nb, ACode P nt m d env h nb Q → K env h nb)
    (hd : ∀ j, I j → ACode P nt m d (mkE (le j)) (mkH (lh j)) n Q) : ACode P nt m c env h nb (thenA K Q) := by
  refine hc.mono fun x env h nb hq => ?_
  cases x with
  | normal =>
    obtain ⟨j, hj, ρ, hr, he, hh⟩ := hq
    exact hK env h nb (c_weak ρ (le j) (lh j) n hr he hh (hd j hj))
  | _ => exact hq

/-! ### Freezing -/

theorem c_freeze {c : Code} (id : Nat) {e : TypeId} {sz : Nat} {rows : List (List PV)} (hid : h id = some (.arr e sz rows)) (hc : ACode P nt m c env (upd h id (some (.fz rows))) nb Q) : ACode P nt m c env h nb Q := by
  intro E a w hs hm
  obtain ⟨E', hch, hI, hw', himm⟩ := freeze_wok hs.ok hid
  have hle : ELe E E' := ⟨hI, fun id => .inr (.inl (by rw [hch]))⟩
  have hev : Evol m E h w E' (upd h id (some (.fz rows))) w := by
    refine ⟨hI, fun _ _ => .inl (by rw [hch]), Nat.le_refl _, fun _ _ _ => rfl, fun g o hg => ?_, fun g ho => .inr ?_, rfl, rfl⟩
    · rcases himm g o hg with h1 | h1
      · exact .inl h1
      · exact .inr (.inr ⟨id, by rw [hid]; rfl, h1⟩)
    · obtain ⟨i, h1, h2⟩ := ho
      rw [hch] at h2
      by_cases e : i = id
      · subst e; rw [upd_same] at h1; cases h1
      · rw [upd_other _ _ e] at h1; exact ⟨i, h1, h2⟩
  refine wp_mono (hc E' a w ⟨hw', fun k => (hs.env k).mono hle, fun id hid => by rw [hch]; exact hs.fresh id hid, hs.size, hs.defers⟩ hm) fun e a' w' ⟨E2, x, env', h', nb', g1, g2, g3, g4, g5⟩ => ⟨E2, x, env', h', nb', g1, g2, g3, g4, hev.trans g5⟩

/-- A slot that holds a frozen array tells its rows. -/
theorem c_frozen {c : Code} (k : Nat) {id n : Nat} {rows : List (List PV)} (hk : env k = .ref id n) (hid : h id = some (.fz rows)) (hn : rows.length = n) (hc : ACode P nt m c (upd env k (.p (.fro rows))) h nb Q) : ACode P nt m c env h nb Q := by
  intro E a w hs hm
  refine hc E a w ⟨hs.ok, fun j => ?_, hs.fresh, hs.size, hs.defers⟩ hm
  by_cases e : j = k
  · subst e
    rw [upd_same]
    have := hs.env j
    rw [hk] at this
    exact fro_of_fz hs.ok hid this hn
  · rw [upd_other _ _ e]; exact hs.env j

/-- So does a cell of a variable. -/
theorem c_frozen_cell {c : Code} (b j : Nat) {t : TypeId} {cells : List AV} {id n : Nat} {rows : List (List PV)} (hb : h b = some (.box t cells)) (hj : cells[j]? = some (.ref id n)) (hid : h id = some (.fz rows)) (hn : rows.length = n)
    (hc : ACode P nt m c env (upd h b (some (.box t (cells.set j (.p (.fro rows)))))) nb Q) : ACode P nt m c env h nb Q := by
  intro E a w hs hm
  have hw := hs.ok
  have hk := hw.ck b
  rw [hb] at hk
  obtain ⟨g, vs, e1, hg, hsz, hcl, hI⟩ := hk
  have hw' : WOK E (upd h b (some (.box t (cells.set j (.p (.fro rows)))))) w := by
    refine hw.touch (g := g) (by rw [hb]; rfl) (by rw [e1]; rfl) (fun _ _ => rfl) ?_
    rw [e1]
    refine ⟨g, vs, rfl, hg, by simpa using hsz, fun i x hx => ?_, hI⟩
    by_cases e : i = j
    · subst e
      have hlt : i < cells.length := (List.getElem?_eq_some_iff.1 hj).1
      rw [List.getElem?_set_self hlt] at hx
      injection hx with hx
      subst hx
      obtain ⟨v, hv, hr⟩ := hcl i _ hj
      exact ⟨v, hv, fro_of_fz hw hid hr hn⟩
    · rw [List.getElem?_set_ne (Ne.symm e)] at hx
      exact hcl i x hx
  have hev : Evol m E h w E (upd h b (some (.box t (cells.set j (.p (.fro rows)))))) w :=
    (Moved.touch (g := g) (by rw [hb]; rfl) (by rw [e1]; rfl) (Nat.le_refl _) (fun _ _ => rfl)).evol (nid := m) (.refl _ _) (Nat.le_refl _)
  refine wp_mono (hc E a w ⟨hw', hs.env, hs.fresh, hs.size, hs.defers⟩ hm) fun e a' w' ⟨E2, x, env', h', nb', g1, g2, g3, g4, g5⟩ => ⟨E2, x, env', h', nb', g1, g2, g3, g4, hev.trans g5⟩

/-- A nil slice is taken up as an array of the call's own. -/
theorem c_adopt {c : Code} (k : Nat) (e : TypeId) (sz : Nat) (hk : env k = .nil) (hc : ACode P nt m c (upd env k (.ref nb 0)) (upd h nb (some (.arr e sz []))) (nb + 1) Q) : ACode P nt m c env h nb Q := by
  intro E a w hs hm
  have hu := hs.fresh nb (Nat.le_refl _)
  have hle : ELe E { E with ch := upd E.ch nb (.sl (.slice none 0 0)) } := (EStep.new E nb _).le hu
  have hci : ∀ g, (ChI.sl (.slice none 0 0)).block = some g → w.heap.size ≤ g := fun g e => by cases e
  have hw' := hs.ok.new (ci := .sl (.slice none 0 0)) (ck := some (.arr e sz [])) hu (Nat.le_refl _) (fun _ _ => rfl) hci
    ⟨_, rfl, [], ⟨by simp, .inl ⟨rfl, rfl⟩⟩, fun r hr => by simp at hr, fun i j r x hr => by simp at hr, fun u hu => by simp at hu, fun g hg => by cases hg⟩
  have hev : Evol m E h w { E with ch := upd E.ch nb (.sl (.slice none 0 0)) } (upd h nb (some (.arr e sz []))) w := (Moved.new (Nat.le_refl _) (fun _ _ => rfl) hci).evol (.new E nb _) hm
  refine wp_mono (hc _ a w ⟨hw', fun j => ?_, fun id hid => ?_, hs.size, hs.defers⟩ (by omega)) fun e a' w' ⟨E2, x, env', h', nb', g1, g2, g3, g4, g5⟩ => ⟨E2, x, env', h', nb', g1, g2, g3, g4, hev.trans g5⟩
  · by_cases e : j = k
    · subst e
      rw [upd_same]
      have := hs.env j
      rw [hk] at this
      generalize a.tmps.getD j undef = v at this
      cases this
      exact .ref (upd_same _ _ _) (fun hp => absurd hp (by omega))
    · rw [upd_other _ _ e]; exact (hs.env j).mono hle
  · show upd E.ch nb _ id = _
    rw [upd_other _ _ (by omega)]
    exact hs.fresh id (by omega)

/-! ### A function's begin and end -/

def argAt : List AV → Nat → AV
  | [], _ => .any
  | x :: _, 0 => x
  | _ :: l, k + 1 => argAt l k

theorem argAt_eq : ∀ (l : List AV) (k : Nat), argAt l k = l.getD k .any
  | [], k => by simp [argAt]
  | x :: l, 0 => rfl
  | x :: l, k + 1 => by simp [argAt, argAt_eq l k]

def envA (args : List AV) : AEnv := fun k => argAt args k

def resA (P : Program) (env : AEnv) (h : AHeap) : List ResultVar → Option (List AV)
  | [] => some []
  | .tmp t :: l => match resA P env h l with
    | some r => some (env t :: r)
    | none => none
  | .cell a t :: l => match tyf P t with
    | some y => match loadA h y (env a), resA P env h l with
      | some x, some r => some (x :: r)
      | _, _ => none
    | none => none

def oneA : List AV → AV
  | [x] => x
  | l => .tup l

/-- The result, under the numbers that the caller knows. -/
structure Out (m : Nat) (h : AHeap) (y : AV) (R : AV → AHeap → Prop) : Prop where
  out : ∃ (ρ : Nat → Nat) (y' : AV) (lh : List (Nat × Ck)), WeakR m ρ (m + 1) (lh.map (·.1)) ∧ AVLe ρ (m + 1) y y' ∧ AllH ρ (m + 1) h lh ∧ idsLt (m + 1) y' ∧ R y' (mkH lh)

def RetQ (P : Program) (m : Nat) (res : List ResultVar) (R : AV → AHeap → Prop) (Rp : AV → Prop) : AQ
  | .normal, env, h, _ => ∃ l, resA P env h res = some l ∧ Out m h (oneA l) R
  | .ret, env, h, _ => ∃ l, resA P env h res = some l ∧ Out m h (oneA l) R
  | .panic x, _, _, _ => Rp x
  | _, _, _, _ => False

omit env h Q in
theorem resA_run {E : Env} {w : World} {a : Act} {env : AEnv} {h : AHeap} (hw : WOK E h w) (henv : ∀ k, Rep E (env k) (a.tmps.getD k undef)) : ∀ (rs : List ResultVar) (l : List AV), resA P env h rs = some l →
    ∃ vs, (rs.mapM fun
      | ResultVar.tmp t => pure (a.tmps.getD t undef)
      | ResultVar.cell x t => do loadVar t (← asAddr (a.tmps.getD x undef)) : Sem (List Value)).run P w = .ok vs w ∧ RepL E l vs
  | [], l, hr => by
    injection hr with hr
    subst hr
    exact ⟨[], by simp, .nil E⟩
  | .tmp t :: rs, l, hr => by
    simp only [resA] at hr
    split at hr
    · rename_i r hrr
      injection hr with hr
      subst hr
      obtain ⟨vs, h1, h2⟩ := resA_run hw henv rs r hrr
      exact ⟨_, by simp only [List.mapM_cons, Sem.run_bind, Sem.run_pure, Result.andThen_ok, h1], .cons (henv t) h2⟩
    · cases hr
  | .cell x t :: rs, l, hr => by
    simp only [resA] at hr
    split at hr
    · rename_i y hy
      split at hr
      · rename_i z r hz hrr
        injection hr with hr
        subst hr
        obtain ⟨vs, h1, h2⟩ := resA_run hw henv rs r hrr
        obtain ⟨ad, val, e1, e2, e3⟩ := load_run (P := P) hw hy (henv x) hz
        have e4 : (asAddr (a.tmps.getD x undef)).run P w = .ok ad w := by rw [e1]; rfl
        exact ⟨_, by simp only [List.mapM_cons, Sem.run_bind, Sem.run_pure, Result.andThen_ok, e4, e2, h1], .cons e3 h2⟩
      · cases hr
    · cases hr

omit env h Q nb in
theorem acalls_of_body {f : FuncId} {fn : Func} {c : Code} {args : List AV} {H : AHeap} {R : AV → AHeap → Prop} {Rp : AV → Prop} (hf : P.funcs[f]? = some fn) (hb : fn.body = some c) (hnt : fn.ntmps = nt) (hlen : args.length ≤ nt)
    (hrp : ∀ x, Rp x → True)
    (hc : ACode P nt m c (envA args) H m (RetQ P m fn.results.toList R Rp)) : ACalls P f m args H R Rp := by
  intro E w vs hw hfr hrep
  refine calls_of_wp hf hb ?_
  have hvl : vs.size = args.length := by have := hrep.1; simpa using this.symm
  have hs : Sim nt E (envA args) H m { tmps := vs ++ Array.replicate (fn.ntmps - vs.size) undef, defers := [] } w := by
    refine ⟨hw, fun k => ?_, hfr, by simp; omega, rfl⟩
    show Rep E (argAt args k) _
    rw [argAt_eq]
    by_cases hk : k < args.length
    · obtain ⟨v, hv, hr⟩ := hrep.2 k args[k] (List.getElem?_eq_getElem hk)
      have h1 : args.getD k .any = args[k] := by simp [hk]
      have hv' : vs[k]? = some v := by simpa using hv
      have h2 : (vs ++ Array.replicate (fn.ntmps - vs.size) undef).getD k undef = v := by
        rw [Array.getD_eq_getD_getElem?, Array.getElem?_append_left (by omega), hv']
        rfl
      rw [h1, h2]
      exact hr
    · have h1 : args.getD k .any = .any := by simp [List.getD, List.getElem?_eq_none (Nat.le_of_not_lt hk)]
      rw [h1]
      exact .any _
  refine wp_mono (hc E _ w hs (Nat.le_refl _)) fun e a' w' hq => ?_
  obtain ⟨E', x, env', h', nb', g1, g2, g3, g4, g5⟩ := hq
  have fin : (∃ l, resA P env' h' fn.results.toList = some l ∧ Out m h' (oneA l) R) → a'.defers = [] ∧ ∃ v, (results fn a'.tmps).run P w' = .ok v w' ∧ APost m E H w R Rp (.returned v) w' := by
    intro ⟨l, hl, ho⟩
    obtain ⟨us, h1, h2⟩ := resA_run (P := P) g4.ok g4.env _ l hl
    obtain ⟨ρ, y', lh, q1, q2, q3, q4, q5⟩ := ho.out
    have hrun : (results fn a'.tmps).run P w' = .ok (if h : us.toArray.size = 1 then us.toArray[0] else .tuple us.toArray) w' := by
      unfold results
      rw [Array.mapM_eq_mapM_toList]
      rw [Sem.run_bind, Sem.run_map]
      exact congrArg (fun (r : Result (List Value)) => (r.andThen fun a w' => .ok a.toArray w').andThen fun (a : Array Value) w' => Sem.run P (pure (if h : a.size = 1 then a[0] else .tuple a)) w') h1
    have hrv : Rep E' (oneA l) (if h : us.toArray.size = 1 then us.toArray[0] else .tuple us.toArray) := by
      have hlen := h2.1
      match l, us, h2, hlen with
      | [x], [u], h2, _ =>
        obtain ⟨v, hv, hr⟩ := h2.2 0 x rfl
        simp at hv
        subst hv
        exact hr
      | [], [], h2, _ => exact RepL.tup (by simpa using h2)
      | x :: y :: l, u :: v :: us, h2, _ =>
        have : ¬ (u :: v :: us).toArray.size = 1 := by simp
        rw [dif_neg this]
        exact RepL.tup (by simpa using h2)
    obtain ⟨s1, s2⟩ := weak_sim q1 mkH_mem g4 (fun k => (.inl rfl : AVLe ρ (m + 1) (env' k) .any)) q3.at_
    refine ⟨g4.defers, _, hrun, .inl ⟨_, _, y', mkH lh, rfl, q2.rep hrv, q5, ⟨q4, fun id hid => ?_, fun id => (q3.at_ id).2⟩, s1.ok, g5.trans s2⟩⟩
    rcases (q3.at_ id).1 with e | ⟨e, _⟩
    · exact e
    · omega
  cases e <;> cases x <;> simp only [EM] at g3 <;> try exact g3.elim
  · exact fin g1
  · exact g1.elim
  · exact fin g1
  · obtain ⟨v, e1, e2, e3⟩ := g3
    refine ⟨g4.defers, .inr ⟨v, E', _, by rw [e1], e2, g1, e3, ⟨g4.ok.imm, fun _ => trivial, fun _ _ _ _ h => by cases h⟩, ⟨g5.I, g5.ch, g5.size, g5.frame, g5.imm, fun g ho => ?_, g5.same⟩⟩⟩
    obtain ⟨i, h1, _⟩ := ho
    cases h1

end

end Go.Ab
