/- Functions that are handed chunks of memory. No condition. -/
import Derived.Test.YtohmjbgcmccplaaAb18
set_option linter.unusedVariables false
set_option linter.unusedSimpArgs false
namespace Go.Ab
open Go

/-- Chunks, numbered from 0. -/
def lH (l : List Ck) : AHeap := fun i => l[i]?
theorem lH_nil {i : Nat} : lH [] i = none := by simp [lH]
theorem lH_zero {c : Ck} {l : List Ck} : lH (c :: l) 0 = some c := rfl
theorem lH_succ {c : Ck} {l : List Ck} {i : Nat} : lH (c :: l) (i + 1) = lH l i := by simp [lH]

/-- The same with holes: chunks that are used up. -/
def lO (l : List (Option Ck)) : AHeap := fun i => l.getD i none
theorem lO_nil {i : Nat} : lO [] i = none := by simp [lO]
theorem lO_zero {c : Option Ck} {l : List (Option Ck)} : lO (c :: l) 0 = c := rfl
theorem lO_succ {c : Option Ck} {l : List (Option Ck)} {i : Nat} : lO (c :: l) (i + 1) = lO l i := by simp [lO]

/-- A function that is handed chunks, tells y and leaves the chunks so: one more, where it made one. -/
def AMem (P : Program) (f : FuncId) (cks : List Ck) (args : List AV) (y : AV) (cks' : List (Option Ck)) : Prop :=
  ACalls P f cks.length args (lH cks) (fun x h => x = y ∧ h = lO cks') (fun _ => False)

def putL (ρ : Nat → Nat) (h : AHeap) : List Nat → List (Option Ck) → AHeap
  | id :: ids, c :: cs => upd (putL ρ h ids cs) id (Option.map (renCk ρ) c)
  | _, _ => h

def hasL (ρ : Nat → Nat) (h : AHeap) : List Nat → List Ck → Prop
  | id :: ids, c :: cs => h id = some (renCk ρ c) ∧ hasL ρ h ids cs
  | [], [] => True
  | _, _ => False

def idsLtCks (m : Nat) : List Ck → Prop
  | [] => True
  | c :: cs => idsLtCk m (some c) ∧ idsLtCks m cs

theorem idsLtCks_at {m : Nat} : ∀ {l : List Ck}, idsLtCks m l → ∀ i, idsLtCk m (lH l i)
  | [], _, i => by rw [lH_nil]; trivial
  | c :: l, h, 0 => h.1
  | c :: l, h, i + 1 => by rw [lH_succ]; exact idsLtCks_at h.2 i

theorem hasL_len {ρ : Nat → Nat} {h : AHeap} : ∀ {ids : List Nat} {cs : List Ck}, hasL ρ h ids cs → ids.length = cs.length
  | [], [], _ => rfl
  | [], _ :: _, hh => hh.elim
  | _ :: _, [], hh => hh.elim
  | _ :: ids, _ :: cs, hh => by simp [hasL_len hh.2]

theorem hasL_at {ρ : Nat → Nat} {h : AHeap} : ∀ {ids : List Nat} {cs : List Ck}, hasL ρ h ids cs → ∀ i, i < ids.length → lH cs i ≠ none ∧ h (ids.getD i 0) = (lH cs i).map (renCk ρ)
  | [], [], _, i, hi => by simp at hi
  | [], _ :: _, hh, _, _ => hh.elim
  | _ :: _, [], hh, _, _ => hh.elim
  | id :: ids, c :: cs, hh, 0, _ => ⟨by simp [lH], by simpa [lH] using hh.1⟩
  | id :: ids, c :: cs, hh, i + 1, hi => by
    rw [lH_succ]
    simpa using hasL_at hh.2 i (by simpa using hi)

theorem putL_at (ρ : Nat → Nat) (h : AHeap) : ∀ (ids : List Nat) (cs : List (Option Ck)) (id : Nat), ids.Nodup → putL ρ h ids cs id = match ids.idxOf? id with
    | some i => match cs[i]? with
      | some c => Option.map (renCk ρ) c
      | none => h id
    | none => h id
  | [], cs, id, _ => by simp [putL]
  | j :: ids, [], id, _ => by
    simp only [putL]
    split
    · simp
    · rfl
  | j :: ids, c :: cs, id, hd => by
    simp only [putL]
    have hd' := List.nodup_cons.1 hd
    by_cases e : j = id
    · subst e
      rw [upd_same]
      simp [List.idxOf?_cons]
    · rw [upd_other _ _ (Ne.symm e), putL_at ρ h ids cs id hd'.2, List.idxOf?_cons]
      have : (j == id) = false := by simpa using e
      simp only [this, if_false]
      cases hx : ids.idxOf? id with
      | none => simp
      | some i => simp

theorem idxOf_app {rs : List Nat} {nid id : Nat} (hn : nid ∉ rs) : (rs ++ [nid]).idxOf? id = if id = nid then some rs.length else rs.idxOf? id := by
  induction rs with
  | nil =>
    by_cases e : nid = id
    · subst e; simp [List.idxOf?_cons]
    · have : (nid == id) = false := by simpa using e
      simp [List.idxOf?_cons, this, Ne.symm e]
  | cons r rs ih =>
    have h1 : nid ≠ r ∧ nid ∉ rs := by simpa using hn
    rw [List.cons_append, List.idxOf?_cons, ih h1.2, List.idxOf?_cons]
    by_cases e : r = id
    · subst e
      simp [Ne.symm h1.1]
    · have : (r == id) = false := by simpa using e
      simp only [this]
      by_cases e2 : id = nid
      · simp [e2]
      · simp [e2]

theorem pushH_putL {rs : List Nat} {nid : Nat} {cks : List (Option Ck)} {h : AHeap} (hd : rs.Nodup) (hn : nid ∉ rs) (hl : rs.length ≤ cks.length) (hnid : h nid = none) :
    pushH rs nid (lO cks) h = putL (look rs nid) h (rs ++ [nid]) cks := by
  funext id
  have hd2 : (rs ++ [nid]).Nodup := by
    rw [List.nodup_append]
    refine ⟨hd, by simp, fun a ha b hb => ?_⟩
    simp at hb
    subst hb
    exact fun e => hn (e ▸ ha)
  rw [putL_at _ _ _ _ _ hd2, idxOf_app hn]
  unfold pushH inside
  by_cases e : id = nid
  · subst e
    simp only [if_true, lO, List.getD_eq_getElem?_getD]
    cases cks[rs.length]? with
    | none => simp [hnid]
    | some c => simp
  · simp only [e, if_false]
    cases hx : rs.idxOf? id with
    | none => rfl
    | some i =>
      have hi : i < rs.length := by
        rw [List.idxOf?_eq_some_iff] at hx
        exact hx.1
      have : cks[i]? = some (cks[i]'(by omega)) := by simp [show i < cks.length by omega]
      simp only [lO, List.getD_eq_getElem?_getD, this, Option.getD_some]

/-- A call of such a function. -/
theorem CallK.mem {P : Program} {f : FuncId} {cks : List Ck} {cks' : List (Option Ck)} {args largs : List AV} {nid : Nat} {h : AHeap} {K : AV → AHeap → Prop} {Kp : AV → Prop} {y : AV} (hcall : AMem P f cks largs y cks') (rs : List Nat) (hc : callable P f = true)
    (hargs : normL args = renL (look rs nid) largs) (hids : idsLtL rs.length largs) (hd : rs.Nodup ∧ nid ∉ rs) (hhas : hasL (look rs nid) h rs cks) (hcks : idsLtCks rs.length cks) (hle : rs.length ≤ cks'.length) (hn : h nid = none)
    (hk : K (ren (look rs nid) y) (putL (look rs nid) h (rs ++ [nid]) cks')) : CallK P f args nid h K Kp := by
  have hlen := hasL_len hhas
  unfold AMem at hcall
  rw [← hlen] at hcall
  refine ⟨hc, rs, largs, lH cks, _, _, hcall, fun E vs hr => by rw [← hargs]; exact hr.norm, hids, hd.1, hd.2, fun i hi => ?_, fun i hi => by simp [lH, show cks.length ≤ i by omega], idsLtCks_at hcks, fun z l' h1 _ => ?_, fun x hx => hx.elim⟩
  · have := hasL_at hhas i hi
    refine ⟨this.1, ?_⟩
    rw [← this.2]
    simp [look, hi]
  · obtain ⟨rfl, rfl⟩ := h1
    rw [pushH_putL hd.1 hd.2 hle hn]
    exact hk

/-! ### The end of such a function -/

def allL (ρ : Nat → Nat) (n : Nat) (h : AHeap) : Nat → List (Option Ck) → Prop
  | _, [] => True
  | k, some c :: cs => (k < n ∧ h (ρ k) = some (renCk ρ c) ∧ idsLtCk n (some c)) ∧ allL ρ n h (k + 1) cs
  | k, none :: cs => allL ρ n h (k + 1) cs

def numL : Nat → List (Option Ck) → List (Nat × Ck)
  | _, [] => []
  | k, some c :: cs => (k, c) :: numL (k + 1) cs
  | k, none :: cs => numL (k + 1) cs

theorem allL_AllH {ρ : Nat → Nat} {n : Nat} {h : AHeap} : ∀ {cs : List (Option Ck)} {k : Nat}, allL ρ n h k cs → AllH ρ n h (numL k cs)
  | [], _, _ => trivial
  | some c :: cs, k, hh => ⟨hh.1, allL_AllH hh.2⟩
  | none :: cs, k, hh => allL_AllH (cs := cs) (k := k + 1) hh

theorem mkH_numL : ∀ (cs : List (Option Ck)) (k i : Nat), mkH (numL k cs) i = if k ≤ i then lO cs (i - k) else none
  | [], k, i => by simp [numL, mkH, lO]
  | some c :: cs, k, i => by
    show upd (mkH (numL (k + 1) cs)) k (some c) i = _
    by_cases e : i = k
    · subst e
      rw [upd_same]
      simp [lO]
    · rw [upd_other _ _ e, mkH_numL cs (k + 1) i]
      by_cases h : k ≤ i
      · rw [if_pos (by omega), if_pos h, show i - k = (i - (k + 1)) + 1 by omega, lO_succ]
      · rw [if_neg (by omega), if_neg h]
  | none :: cs, k, i => by
    show mkH (numL (k + 1) cs) i = _
    rw [mkH_numL cs (k + 1) i]
    by_cases e : i = k
    · subst e
      rw [if_neg (by omega), if_pos (Nat.le_refl _)]
      simp [lO]
    · by_cases h : k ≤ i
      · rw [if_pos (by omega), if_pos h, show i - k = (i - (k + 1)) + 1 by omega, lO_succ]
      · rw [if_neg (by omega), if_neg h]

/-- Which of the chunks a call leaves is the new one. -/
def newAt (m r i : Nat) : Nat := if i = m then r else i

def ltAll (n : Nat) (ks : List Nat) : Bool := ks.all fun k => decide (k < n)
theorem WeakR.new {m r : Nat} {ks : List Nat} (hr : m ≤ r) (hk : ltAll (m + 1) ks = true := by rfl) : WeakR m (newAt m r) (m + 1) ks :=
  ⟨fun i hi => by simp [newAt]; omega, fun i j hi hj hij => by
    have h1 := of_decide_eq_true (List.all_eq_true.1 hk i hi)
    have h2 := of_decide_eq_true (List.all_eq_true.1 hk j hj)
    simp only [newAt]; split <;> split <;> omega, by omega⟩
/-- A chunk that goes under another number: the old one is not told of any more. -/
theorem WeakR.move {m r : Nat} {ks : List Nat} (hk : (ltAll (m + 1) ks && !ks.contains r) = true := by rfl) : WeakR m (newAt m r) (m + 1) ks :=
  ⟨fun i hi => by simp [newAt]; omega, fun i j hi hj hij => by
    simp only [Bool.and_eq_true, Bool.not_eq_true', List.contains_eq_mem, decide_eq_false_iff_not] at hk
    have h1 := of_decide_eq_true (List.all_eq_true.1 hk.1 i hi)
    have h2 := of_decide_eq_true (List.all_eq_true.1 hk.1 j hj)
    have h3 : i ≠ r := fun e => hk.2 (e ▸ hi)
    have h4 : j ≠ r := fun e => hk.2 (e ▸ hj)
    simp only [newAt]; split <;> split <;> omega, by omega⟩

theorem ret_mw {P : Program} {env : AEnv} {h : AHeap} {nb m : Nat} {res : List ResultVar} {y : AV} {cks' : List (Option Ck)} {Rp : AV → Prop} (r : Nat) (hr : WeakR m (newAt m r) (m + 1) ((numL 0 cks').map (·.1))) {l : List AV} (hl : resA P env h res = some l) (hy : AVLe (newAt m r) (m + 1) (oneA l) y) (hi : idsLt (m + 1) y)
    (hh : allL (newAt m r) (m + 1) h 0 cks') : RetQ P m res (fun x h => x = y ∧ h = lO cks') Rp .ret env h nb := by
  refine ⟨l, hl, ⟨newAt m r, y, numL 0 cks', hr, hy, allL_AllH hh, hi, rfl, ?_⟩⟩
  funext i
  rw [mkH_numL]
  simp
theorem ret_mem {P : Program} {env : AEnv} {h : AHeap} {nb m : Nat} {res : List ResultVar} {y : AV} {cks' : List (Option Ck)} {Rp : AV → Prop} (r : Nat) (hr : m ≤ r) {l : List AV} (hl : resA P env h res = some l) (hy : AVLe (newAt m r) (m + 1) (oneA l) y) (hi : idsLt (m + 1) y)
    (hh : allL (newAt m r) (m + 1) h 0 cks') (hk : ltAll (m + 1) ((numL 0 cks').map (·.1)) = true := by rfl) : RetQ P m res (fun x h => x = y ∧ h = lO cks') Rp .ret env h nb := ret_mw r (.new hr hk) hl hy hi hh
theorem ret_move {P : Program} {env : AEnv} {h : AHeap} {nb m : Nat} {res : List ResultVar} {y : AV} {cks' : List (Option Ck)} {Rp : AV → Prop} (r : Nat) {l : List AV} (hl : resA P env h res = some l) (hy : AVLe (newAt m r) (m + 1) (oneA l) y) (hi : idsLt (m + 1) y)
    (hh : allL (newAt m r) (m + 1) h 0 cks') (hk : (ltAll (m + 1) ((numL 0 cks').map (·.1)) && !((numL 0 cks').map (·.1)).contains r) = true := by rfl) : RetQ P m res (fun x h => x = y ∧ h = lO cks') Rp .ret env h nb := ret_mw r (.move hk) hl hy hi hh

theorem amem_body {P : Program} {f : FuncId} {fn : Func} {c : Code} {nt : Nat} {args : List AV} {cks : List Ck} {cks' : List (Option Ck)} {y : AV} (hf : P.funcs[f]? = some fn) (hb : fn.body = some c) (hnt : fn.ntmps = nt) (hlen : args.length ≤ nt)
    (hc : ACs P nt cks.length [c] (RetQ P cks.length fn.results.toList (fun x h => x = y ∧ h = lO cks') (fun _ => False)) (envA args) (lH cks) cks.length) : AMem P f cks args y cks' :=
  acalls_body hf hb hnt hlen hc

/-- A nil slice in a variable's cell is taken up as an array of the call's own. -/
theorem cs_adopt_cell {P : Program} {nt m nb : Nat} {env : AEnv} {h : AHeap} {Q : AQ} {cs : List Code} {c : Code} (b j : Nat) (e : TypeId) (sz : Nat) {t : TypeId} {cells : List AV} (hb : h b = some (.box t cells)) (hj : cells[j]? = some .nil)
    (hc : ACs P nt m (c :: cs) Q env (upd (upd h b (some (.box t (cells.set j (.ref nb 0))))) nb (some (.arr e sz []))) (nb + 1)) : ACs P nt m (c :: cs) Q env h nb := by
  intro E a w hs hm
  have hu := hs.fresh nb (Nat.le_refl _)
  have hbn : b ≠ nb := fun e2 => by
    subst e2
    have := hs.ok.ck b
    rw [hb, hu] at this
    exact absurd rfl this.born
  have hle : ELe E { E with ch := upd E.ch nb (.sl (.slice none 0 0)) } := (EStep.new E nb _).le hu
  have hci : ∀ g, (ChI.sl (.slice none 0 0)).block = some g → w.heap.size ≤ g := fun g e => by cases e
  have hw' := hs.ok.new (ci := .sl (.slice none 0 0)) (ck := some (.arr e sz [])) hu (Nat.le_refl _) (fun _ _ => rfl) hci
    ⟨_, rfl, [], ⟨by simp, .inl ⟨rfl, rfl⟩⟩, fun r hr => by simp at hr, fun i j r x hr => by simp at hr, fun u hu => by simp at hu, fun g hg => by cases hg⟩
  have hev : Evol m E h w { E with ch := upd E.ch nb (.sl (.slice none 0 0)) } (upd h nb (some (.arr e sz []))) w := (Moved.new (Nat.le_refl _) (fun _ _ => rfl) hci).evol (.new E nb _) hm
  have hb2 : (upd h nb (some (.arr e sz []))) b = some (.box t cells) := by rw [upd_other _ _ hbn]; exact hb
  have hk := hw'.ck b
  rw [hb2] at hk
  obtain ⟨g, vs, e1, hg, hsz, hcl, hI⟩ := hk
  have hw2 := hw'.touch (g := g) (id := b) (w' := w) (ck := some (.box t (cells.set j (.ref nb 0)))) (by rw [hb2]; rfl) (by rw [e1]; rfl) (fun _ _ => rfl) (by
    rw [e1]
    refine ⟨g, vs, rfl, hg, by simpa using hsz, fun i x hx => ?_, hI⟩
    by_cases e : i = j
    · subst e
      have hlt : i < cells.length := (List.getElem?_eq_some_iff.1 hj).1
      rw [List.getElem?_set_self hlt] at hx
      injection hx with hx
      subst hx
      obtain ⟨v, hv, hr⟩ := hcl i _ hj
      refine ⟨v, hv, ?_⟩
      cases hr
      exact .ref (upd_same _ _ _) (fun hp => absurd hp (by omega))
    · rw [List.getElem?_set_ne (Ne.symm e)] at hx
      exact hcl i x hx)
  have hev2 := (Moved.touch (g := g) (id := b) (w' := w) (ck := some (.box t (cells.set j (.ref nb 0)))) (E := { E with ch := upd E.ch nb (.sl (.slice none 0 0)) }) (h := upd h nb (some (.arr e sz []))) (w := w) (by rw [hb2]; rfl) (by rw [e1]; rfl) (Nat.le_refl _) (fun _ _ => rfl)).evol (nid := m) (.refl _ _) (Nat.le_refl _)
  have hcomm : upd (upd h nb (some (.arr e sz []))) b (some (.box t (cells.set j (.ref nb 0)))) = upd (upd h b (some (.box t (cells.set j (.ref nb 0))))) nb (some (.arr e sz [])) := upd_comm _ _ _ hbn
  rw [hcomm] at hw2 hev2
  refine wp_mono (hc _ a w ⟨hw2, fun j => (hs.env j).mono hle, fun id hid => ?_, hs.size, hs.defers⟩ (by omega)) fun e a' w' ⟨E2, x, env', h', nb', g1, g2, g3, g4, g5⟩ => ⟨E2, x, env', h', nb', g1, g2, g3, g4, (hev.trans hev2).trans g5⟩
  show upd E.ch nb _ id = _
  rw [upd_other _ _ (by omega)]
  exact hs.fresh id (by omega)

attribute [push_cast] lO_nil lO_zero lO_succ Option.map_some Option.map_none lH_nil lH_zero lH_succ putL hasL idsLtCks allL newAt look

end Go.Ab
