/- Chunks under other numbers: what a callee sees of its caller's memory, and what the caller sees of what the callee left. No condition. -/
import Derived.Test.YtohmjbgcmccplaaAb8
set_option linter.unusedVariables false
set_option linter.unusedSimpArgs false
namespace Go.Ab
open Go

mutual
def ren (ρ : Nat → Nat) : AV → AV
  | .any => .any
  | .nil => .nil
  | .p x => .p x
  | .ptr id off => .ptr (ρ id) off
  | .ref id n => .ref (ρ id) n
  | .apt id sz i j => .apt (ρ id) sz i j
  | .rpt row j => .rpt row j
  | .fn f caps => .fn f (renL ρ caps)
  | .agg xs => .agg (renL ρ xs)
  | .tup xs => .tup (renL ρ xs)
def renL (ρ : Nat → Nat) : List AV → List AV
  | [] => []
  | x :: xs => ren ρ x :: renL ρ xs
end

mutual
def idsLt (m : Nat) : AV → Prop
  | .ptr id _ => id < m
  | .ref id _ => id < m
  | .apt id _ _ _ => id < m
  | .fn _ caps => idsLtL m caps
  | .agg xs => idsLtL m xs
  | .tup xs => idsLtL m xs
  | _ => True
def idsLtL (m : Nat) : List AV → Prop
  | [] => True
  | x :: xs => idsLt m x ∧ idsLtL m xs
end

theorem renL_eq (ρ : Nat → Nat) : ∀ xs, renL ρ xs = xs.map (ren ρ)
  | [] => rfl
  | x :: xs => by rw [renL, renL_eq ρ xs]; rfl
theorem idsLtL_iff (m : Nat) : ∀ xs, idsLtL m xs ↔ ∀ x ∈ xs, idsLt m x
  | [] => by simp [idsLtL]
  | x :: xs => by simp [idsLtL, idsLtL_iff m xs]

def renCk (ρ : Nat → Nat) : Ck → Ck
  | .box t cells => .box t (renL ρ cells)
  | .arr e sz rows => .arr e sz rows
  | .fz rows => .fz rows

def idsLtCk (m : Nat) : Option Ck → Prop
  | some (.box _ cells) => idsLtL m cells
  | _ => True

theorem owned_ren (ρ : Nat → Nat) (ck : Option Ck) : Ck.owned (ck.map (renCk ρ)) = Ck.owned ck := by
  match ck with
  | none => rfl
  | some (.box ..) => rfl
  | some (.arr ..) => rfl
  | some (.fz ..) => rfl

/-! ### From inside out -/

structure RLe (ρ : Nat → Nat) (E F : Env) : Prop where
  I : ILe E.I F.I
  ch : ∀ id, E.ch id = .unborn ∨ F.ch (ρ id) = E.ch id ∨ F.ch (ρ id) = .dead

theorem Rep.push {ρ : Nat → Nat} {E F : Env} {m : Nat} (hI : ILe E.I F.I) (hc : ∀ id, id < m → F.ch (ρ id) = E.ch id) {x : AV} {v : Value} (h : Rep E x v) : idsLt m x → Rep F (ren ρ x) v := by
  induction h with
  | any v => intro _; exact .any v
  | nil => intro _; exact .nil
  | p hx => intro _; exact .p (hx.mono hI)
  | ptr h => intro hid; exact .ptr ((hc _ hid).trans h)
  | ptrd q h => intro hid; exact .ptrd q ((hc _ hid).trans h)
  | ref h hA => intro hid; exact .ref ((hc _ hid).trans h) hA
  | refd A c h hA => intro hid; exact .refd A c ((hc _ hid).trans h) hA
  | apt h => intro hid; exact .apt ((hc _ hid).trans h)
  | aptd q h => intro hid; exact .aptd q ((hc _ hid).trans h)
  | rpt g off vs hcell h1 hrep => intro _; exact .rpt g off vs (fun k hk => icell_mono hI (hcell k hk)) h1 (fun k x hx => (hrep k x hx).mono hI)
  | @fn f caps vs hs u hu _ ih =>
    intro hid
    simp only [idsLt, idsLtL_iff] at hid
    simp only [ren, renL_eq]
    refine .fn vs (by simpa using hs) u (fun i hi => hu i (by simpa using hi)) (fun i x hx => ?_)
    simp only [List.getElem?_map] at hx
    cases hy : caps[i]? with
    | none => rw [hy] at hx; cases hx
    | some y => rw [hy] at hx; injection hx with hx; subst hx; exact ih i y hy (hid y (List.mem_of_getElem? hy))
  | @agg xs vs hs u hu _ ih =>
    intro hid
    simp only [idsLt, idsLtL_iff] at hid
    simp only [ren, renL_eq]
    refine .agg vs (by simpa using hs) u (fun i hi => hu i (by simpa using hi)) (fun i x hx => ?_)
    simp only [List.getElem?_map] at hx
    cases hy : xs[i]? with
    | none => rw [hy] at hx; cases hx
    | some y => rw [hy] at hx; injection hx with hx; subst hx; exact ih i y hy (hid y (List.mem_of_getElem? hy))
  | @tup xs vs hs u hu _ ih =>
    intro hid
    simp only [idsLt, idsLtL_iff] at hid
    simp only [ren, renL_eq]
    refine .tup vs (by simpa using hs) u (fun i hi => hu i (by simpa using hi)) (fun i x hx => ?_)
    simp only [List.getElem?_map] at hx
    cases hy : xs[i]? with
    | none => rw [hy] at hx; cases hx
    | some y => rw [hy] at hx; injection hx with hx; subst hx; exact ih i y hy (hid y (List.mem_of_getElem? hy))

/-- The chunks below m, under their numbers inside. -/
def pull (ρ : Nat → Nat) (m : Nat) (E : Env) : Env := { I := E.I, ch := fun i => if i < m then E.ch (ρ i) else .unborn }

theorem pull_ch {ρ : Nat → Nat} {m i : Nat} {E : Env} (h : i < m) : (pull ρ m E).ch i = E.ch (ρ i) := by simp [pull, h]

theorem Rep.pull {ρ : Nat → Nat} {E : Env} {m : Nat} {y : AV} {v : Value} (h : Rep E y v) : ∀ x, y = ren ρ x → idsLt m x → Rep (pull ρ m E) x v := by
  induction h with
  | any v => intro x e _; cases x <;> simp only [ren] at e <;> first | exact .any v | cases e
  | nil => intro x e _; cases x <;> simp only [ren] at e <;> first | exact .nil | cases e
  | p hx => intro x e _; cases x <;> simp only [ren] at e <;> first | (injection e with e; subst e; exact .p hx) | cases e
  | ptr h => intro x e hid; cases x <;> simp only [ren] at e <;> first | (injection e with e1 e2; subst e1; subst e2; exact .ptr ((pull_ch hid).trans h)) | cases e
  | ptrd q h => intro x e hid; cases x <;> simp only [ren] at e <;> first | (injection e with e1 e2; subst e1; subst e2; exact .ptrd q ((pull_ch hid).trans h)) | cases e
  | ref h hA => intro x e hid; cases x <;> simp only [ren] at e <;> first | (injection e with e1 e2; subst e1; subst e2; exact .ref ((pull_ch hid).trans h) hA) | cases e
  | refd A c h hA => intro x e hid; cases x <;> simp only [ren] at e <;> first | (injection e with e1 e2; subst e1; subst e2; exact .refd A c ((pull_ch hid).trans h) hA) | cases e
  | apt h => intro x e hid; cases x <;> simp only [ren] at e <;> first | (injection e with e1 e2 e3 e4; subst e1; subst e2; subst e3; subst e4; exact .apt ((pull_ch hid).trans h)) | cases e
  | aptd q h => intro x e hid; cases x <;> simp only [ren] at e <;> first | (injection e with e1 e2 e3 e4; subst e1; subst e2; subst e3; subst e4; exact .aptd q ((pull_ch hid).trans h)) | cases e
  | rpt g off vs hcell h1 hrep => intro x e _; cases x <;> simp only [ren] at e <;> first | (injection e with e1 e2; subst e1; subst e2; exact .rpt g off vs hcell h1 hrep) | cases e
  | fn vs hs u hu _ ih =>
    intro x e hid
    cases x <;> simp only [ren] at e <;> try (cases e; done)
    rename_i f caps
    injection e with e1 e2
    subst e1; subst e2
    simp only [idsLt, idsLtL_iff] at hid
    simp only [renL_eq] at hs hu ih
    refine .fn vs (by simpa using hs) u (fun i hi => hu i (by simpa using hi)) (fun i x hx => ?_)
    exact ih i (ren ρ x) (by simp [hx]) x rfl (hid x (List.mem_of_getElem? hx))
  | agg vs hs u hu _ ih =>
    intro x e hid
    cases x <;> simp only [ren] at e <;> try (cases e; done)
    rename_i xs
    injection e with e1
    subst e1
    simp only [idsLt, idsLtL_iff] at hid
    simp only [renL_eq] at hs hu ih
    refine .agg vs (by simpa using hs) u (fun i hi => hu i (by simpa using hi)) (fun i x hx => ?_)
    exact ih i (ren ρ x) (by simp [hx]) x rfl (hid x (List.mem_of_getElem? hx))
  | tup vs hs u hu _ ih =>
    intro x e hid
    cases x <;> simp only [ren] at e <;> try (cases e; done)
    rename_i xs
    injection e with e1
    subst e1
    simp only [idsLt, idsLtL_iff] at hid
    simp only [renL_eq] at hs hu ih
    refine .tup vs (by simpa using hs) u (fun i hi => hu i (by simpa using hi)) (fun i x hx => ?_)
    exact ih i (ren ρ x) (by simp [hx]) x rfl (hid x (List.mem_of_getElem? hx))

theorem CkOK.pull {ρ : Nat → Nat} {E : Env} {w : World} {m : Nat} {ci : ChI} {ck : Option Ck} (h : CkOK E w ci (ck.map (renCk ρ))) (hid : idsLtCk m ck) : CkOK (pull ρ m E) w ci ck := by
  match ck, h with
  | none, _ => trivial
  | some (.box t cells), ⟨g, vs, e, hg, hs, hc, hn⟩ =>
    simp only [idsLtCk, idsLtL_iff] at hid
    rw [renL_eq] at hs hc
    refine ⟨g, vs, e, hg, by simpa using hs, fun j x hx => ?_, hn⟩
    obtain ⟨v, hv, hr⟩ := hc j (ren ρ x) (by simp [hx])
    exact ⟨v, hv, hr.pull x rfl (hid x (List.mem_of_getElem? hx))⟩
  | some (.arr e sz rows), ⟨v, e1, ha⟩ => exact ⟨v, e1, ha⟩
  | some (.fz rows), ⟨v, e1, ha⟩ => exact ⟨v, e1, ha⟩

/-- What is seen inside: the chunks below m. -/
theorem WOK.pull {ρ : Nat → Nat} {E : Env} {h l : AHeap} {w : World} {m : Nat} (hw : WOK E h w) (hl : ∀ i, i < m → l i = none ∨ h (ρ i) = (l i).map (renCk ρ)) (hn : ∀ i, m ≤ i → l i = none)
    (hid : ∀ i, idsLtCk m (l i)) (inj : ∀ i j, l i ≠ none → l j ≠ none → i ≠ j → ρ i ≠ ρ j) : WOK (pull ρ m E) l w := by
  refine ⟨hw.imm, fun i => ?_, fun i j g hij h1 h2 e1 => ?_⟩
  · by_cases hi : i < m
    · rw [pull_ch hi]
      rcases hl i hi with e | e
      · rw [e]; trivial
      · have := hw.ck (ρ i)
        rw [e] at this
        exact this.pull (hid i)
    · rw [hn i (by omega)]; trivial
  · have lt : ∀ k, Ck.owned (l k) = true → k < m ∧ h (ρ k) = (l k).map (renCk ρ) := by
      intro k hk
      rcases Nat.lt_or_ge k m with hkm | hkm
      · refine ⟨hkm, (hl k hkm).resolve_left (fun e => ?_)⟩
        rw [e] at hk; cases hk
      · rw [hn k hkm] at hk; cases hk
    obtain ⟨a1, a2⟩ := lt i h1
    obtain ⟨b1, b2⟩ := lt j h2
    rw [pull_ch a1] at e1
    rw [pull_ch b1]
    exact hw.dist (ρ i) (ρ j) g (inj i j (fun e => by rw [e] at h1; cases h1) (fun e => by rw [e] at h2; cases h2) hij) (by rw [a2, owned_ren]; exact h1) (by rw [b2, owned_ren]; exact h2) e1

theorem own_pull {ρ : Nat → Nat} {E : Env} {h l : AHeap} {m g : Nat} (hl : ∀ i, i < m → l i = none ∨ h (ρ i) = (l i).map (renCk ρ)) (hn : ∀ i, m ≤ i → l i = none) (ho : own (pull ρ m E) l g) :
    ∃ i, i < m ∧ Ck.owned (h (ρ i)) = true ∧ (E.ch (ρ i)).block = some g := by
  obtain ⟨i, h1, h2⟩ := ho
  rcases Nat.lt_or_ge i m with hi | hi
  · refine ⟨i, hi, ?_, by rw [pull_ch hi] at h2; exact h2⟩
    rcases hl i hi with e | e
    · rw [e] at h1; cases h1
    · rw [e, owned_ren]; exact h1
  · rw [hn i hi] at h1; cases h1

/-! ### Behind a call: rs are the caller's numbers of the chunks handed over, nid the number of a new one -/

def look (rs : List Nat) (nid : Nat) (i : Nat) : Nat := rs.getD i nid

/-- Of a caller's number the number inside. -/
def inside (rs : List Nat) (nid id : Nat) : Option Nat := if id = nid then some rs.length else rs.idxOf? id

def pushCh (rs : List Nat) (nid : Nat) (F : Nat → ChI) (E : Nat → ChI) : Nat → ChI := fun id => match inside rs nid id with
  | some i => F i
  | none => E id

def pushH (rs : List Nat) (nid : Nat) (l h : AHeap) : AHeap := fun id => match inside rs nid id with
  | some i => (l i).map (renCk (look rs nid))
  | none => h id

theorem inside_look {rs : List Nat} {nid i : Nat} (hd : rs.Nodup) (hn : nid ∉ rs) (hi : i ≤ rs.length) : inside rs nid (look rs nid i) = some i := by
  unfold inside look
  rcases Nat.lt_or_ge i rs.length with h | h
  · have hg : rs.getD i nid = rs[i] := by simp [h]
    have hne : ¬ rs[i] = nid := fun e => hn (by rw [← e]; exact List.getElem_mem h)
    rw [hg, if_neg hne]
    rw [List.idxOf?_eq_some_iff]
    exact ⟨h, rfl, fun j hj => by
      intro e
      have hj' : j < rs.length := by omega
      exact absurd ((List.getElem_inj hd).1 e) (by omega)⟩
  · have : i = rs.length := by omega
    subst this
    simp

theorem inside_some {rs : List Nat} {nid id i : Nat} (h : inside rs nid id = some i) : i ≤ rs.length ∧ look rs nid i = id := by
  unfold inside at h
  split at h
  · rename_i e
    injection h with h
    subst h; subst e
    exact ⟨Nat.le_refl _, by simp [look]⟩
  · rw [List.idxOf?_eq_some_iff] at h
    obtain ⟨h1, h2, -⟩ := h
    exact ⟨by omega, by simp [look, h1, h2]⟩

theorem inside_none {rs : List Nat} {nid id : Nat} (h : inside rs nid id = none) : id ≠ nid ∧ id ∉ rs := by
  unfold inside at h
  split at h
  · cases h
  · rename_i e
    exact ⟨e, by simpa using h⟩

end Go.Ab
