/- Lists of ranges in their one form, and what they tell of each glyph. No condition. -/
import Derived.Test.YtohmjbgcmccplaaC25
namespace Go.Proofs.Ytohmjbgcmccplaa
open Go Go.Ab
set_option linter.unusedVariables false

/-- Two ranges, one behind the other, that are not one. -/
def sepC (a b : Cls) : Prop := a.hi < b.lo ∧ ¬ (b.lo = a.hi + 1 ∧ b.cl = a.cl)
def okC (s : Cls) : Prop := 0 ≤ s.lo ∧ s.lo ≤ s.hi ∧ s.hi ≤ 65535 ∧ s.cl ≠ 0
def CanC (l : List Cls) : Prop := l.Pairwise sepC ∧ ∀ s ∈ l, okC s
/-- All glyphs are below this one. -/
def Below (l : List Cls) (x : Int) : Prop := ∀ s ∈ l, s.hi < x

theorem canC_nil : CanC [] := ⟨List.Pairwise.nil, fun s h => by cases h⟩
theorem below_nil (x : Int) : Below [] x := fun s h => by cases h

theorem ofS_none {l : List Cls} {x : Int} (h : ∀ s ∈ l, ¬ (s.lo ≤ x ∧ x ≤ s.hi)) : ofS l x = 0 := by
  induction l with
  | nil => rfl
  | cons a l ih =>
    rw [ofS, if_neg (h a (by simp))]
    exact ih (fun s hs => h s (by simp [hs]))

theorem ofS_app (l l' : List Cls) (x : Int) : ofS (l ++ l') x = if ∃ s ∈ l, s.lo ≤ x ∧ x ≤ s.hi then ofS l x else ofS l' x := by
  induction l with
  | nil => simp
  | cons a l ih =>
    rw [List.cons_append, ofS]
    by_cases h : a.lo ≤ x ∧ x ≤ a.hi
    · rw [if_pos h, if_pos ⟨a, by simp, h⟩, ofS, if_pos h]
    · rw [if_neg h, ih, ofS, if_neg h]
      by_cases h2 : ∃ s ∈ l, s.lo ≤ x ∧ x ≤ s.hi
      · rw [if_pos h2, if_pos (by obtain ⟨s, hs, hx⟩ := h2; exact ⟨s, by simp [hs], hx⟩)]
      · rw [if_neg h2, if_neg (by
          rintro ⟨s, hs, hx⟩
          rcases List.mem_cons.1 hs with rfl | hs
          · exact h hx
          · exact h2 ⟨s, hs, hx⟩)]

theorem ofS_snoc {l : List Cls} {p : Cls} {x : Int} (hb : Below l p.lo) : ofS (l ++ [p]) x = if p.lo ≤ x ∧ x ≤ p.hi then p.cl else ofS l x := by
  rw [ofS_app]
  by_cases h : p.lo ≤ x ∧ x ≤ p.hi
  · rw [if_pos h, if_neg (by rintro ⟨s, hs, hx⟩; have := hb s hs; omega), ofS, if_pos h]
  · rw [if_neg h]
    by_cases h2 : ∃ s ∈ l, s.lo ≤ x ∧ x ≤ s.hi
    · rw [if_pos h2]
    · rw [if_neg h2, ofS, if_neg h, ofS]
      exact (ofS_none (fun s hs hx => h2 ⟨s, hs, hx⟩)).symm

theorem can_snoc {l : List Cls} {p : Cls} (h : CanC l) (hp : okC p) (hs : ∀ q ∈ l, sepC q p) : CanC (l ++ [p]) := by
  refine ⟨List.pairwise_append.2 ⟨h.1, List.pairwise_singleton _ _, fun a ha b hb => ?_⟩, fun s hm => ?_⟩
  · simp only [List.mem_singleton] at hb; subst hb; exact hs a ha
  · rcases List.mem_append.1 hm with hm | hm
    · exact h.2 s hm
    · simp only [List.mem_singleton] at hm; subst hm; exact hp

theorem can_init {l : List Cls} {p : Cls} (h : CanC (l ++ [p])) : CanC l ∧ okC p ∧ (∀ q ∈ l, sepC q p) ∧ Below l p.lo := by
  obtain ⟨h1, h2⟩ := h
  rw [List.pairwise_append] at h1
  obtain ⟨a, b, c⟩ := h1
  refine ⟨⟨a, fun s hs => h2 s (by simp [hs])⟩, h2 p (by simp), fun q hq => c q hq p (by simp), fun q hq => (c q hq p (by simp)).1⟩

/-- A range put behind the others. -/
theorem clsdS_can {l : List Cls} {s : Cls} (h : CanC l) (hb : Below l s.lo) (h0 : 0 ≤ s.lo) (h1 : s.lo ≤ s.hi) (h2 : s.hi ≤ 65535) :
    CanC (clsdS l s) ∧ Below (clsdS l s) (s.hi + 1) ∧ ∀ x, ofS (clsdS l s) x = if s.lo ≤ x ∧ x ≤ s.hi then s.cl else ofS l x := by
  unfold clsdS
  by_cases hc : s.cl = 0
  · rw [if_pos hc]
    refine ⟨h, fun q hq => by have := hb q hq; omega, fun x => ?_⟩
    split
    · rename_i hx
      rw [hc]
      exact ofS_none (fun q hq hx2 => by have := hb q hq; omega)
    · rfl
  · rw [if_neg hc]
    rcases List.eq_nil_or_concat l with e | ⟨l0, p, e⟩
    · subst e
      refine ⟨can_snoc canC_nil ⟨h0, h1, h2, hc⟩ (fun q hq => by cases hq), fun q hq => ?_, fun x => rfl⟩
      have : q = s := by simpa using hq
      subst this; omega
    · rw [List.concat_eq_append] at e
      subst e
      obtain ⟨i1, i2, i3, i4⟩ := can_init h
      have hp := hb p (by simp)
      simp only [List.getLast?_append, List.getLast?_singleton, Option.some_or, List.dropLast_concat]
      split
      · rename_i hm
        obtain ⟨p1, p2, p3, p4⟩ := i2
        refine ⟨can_snoc i1 ⟨p1, by simp only []; omega, h2, p4⟩ (fun q hq => i3 q hq), fun q hq => ?_, fun x => ?_⟩
        · rcases List.mem_append.1 hq with hq | hq
          · have := i4 q hq; omega
          · simp only [List.mem_singleton] at hq; subst hq; simp only []; omega
        · rw [ofS_snoc (p := ⟨p.lo, s.hi, p.cl⟩) i4, ofS_snoc i4]
          simp only []
          by_cases hx : s.lo ≤ x ∧ x ≤ s.hi
          · rw [if_pos (by omega), if_pos hx, hm.2]
          · rw [if_neg hx]
            by_cases hx2 : p.lo ≤ x ∧ x ≤ p.hi
            · rw [if_pos (by omega), if_pos hx2]
            · rw [if_neg (by omega), if_neg hx2]
      · rename_i hm
        have hb' : Below (l0 ++ [p]) s.lo := hb
        refine ⟨can_snoc h ⟨h0, h1, h2, hc⟩ (fun q hq => ⟨hb q hq, fun hh => ?_⟩), fun q hq => ?_, fun x => ofS_snoc hb'⟩
        · rcases List.mem_append.1 hq with hq | hq
          · have := i4 q hq
            obtain ⟨p1, p2, p3, p4⟩ := i2
            omega
          · simp only [List.mem_singleton] at hq; subst hq
            exact hm ⟨by omega, hh.2.symm⟩
        · rcases List.mem_append.1 hq with hq | hq
          · have := hb q hq; omega
          · simp only [List.mem_singleton] at hq; subst hq; omega

/-! ### Spans are ranges of one class -/

def toC (s : Spn) : Cls := ⟨s.lo, s.hi, 1⟩
def toL (l : List Spn) : List Cls := l.map toC

theorem joinS_toL (l : List Spn) (s : Spn) : toL (joinS l s) = clsdS (toL l) (toC s) := by
  unfold clsdS
  rw [if_neg (show ¬ (toC s).cl = 0 by show ¬ (1 : Int) = 0; omega)]
  rcases List.eq_nil_or_concat l with e | ⟨l0, p, e⟩
  · subst e; rfl
  · rw [List.concat_eq_append] at e
    subst e
    unfold joinS toL
    simp only [List.map_append, List.map_cons, List.map_nil, List.getLast?_append, List.getLast?_singleton, Option.some_or, List.dropLast_concat]
    by_cases h : p.hi + 1 = s.lo
    · rw [if_pos h, if_pos ⟨h, rfl⟩]
      simp [toC]
    · rw [if_neg h, if_neg (fun hh => h hh.1)]
      simp
end Go.Proofs.Ytohmjbgcmccplaa
