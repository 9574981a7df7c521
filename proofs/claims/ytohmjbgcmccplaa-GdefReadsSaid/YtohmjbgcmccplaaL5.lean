/- Tables of values and lists of ranges, whole; and how a list is found in a table again. No condition. -/
import Derived.Test.YtohmjbgcmccplaaL4
namespace Go.Proofs.Ytohmjbgcmccplaa
open Go Go.Ab
set_option linter.unusedVariables false
section
variable {b : List Int}

theorem ru2_some {a x : Int} (h : rd b a 2 = some x) : ru2 b a = x := by unfold ru2; rw [h]; rfl
theorem ru2_none {a : Int} (h : rd b a 2 = none) : ru2 b a = -1 := by unfold ru2; rw [h]; rfl

theorem tri_rel_cov (hb : Bytes b) {at_ : Int} (hf : 0 ≤ at_) : Both (fun T l => Good false T (toL l)) (if ru2 b (at_ + 2) < 0 then none else tabR b at_ false (ru2 b (at_ + 2)).toNat 0 (-1) 0 T0) (ranS b at_) := by
  unfold ranS triS
  cases h : rd b (at_ + 2) 2 with
  | none => rw [ru2_none h, if_pos (by omega)]; trivial
  | some v =>
    have h2 := rd2 hb (at_ + 2)
    rw [h] at h2
    simp only [Option.getD_some] at h2
    have hw := rd_within h
    rw [ru2_some h, if_neg (by omega)]
    obtain ⟨N, rfl⟩ : ∃ N : Nat, v = N := ⟨v.toNat, by omega⟩
    simp only [Int.toNat_natCast]
    by_cases hc : at_ + 4 + 3 * (N : Int) * 2 ≤ b.length
    · simp only [if_pos hc]
      have := par_R hb (N := N) ⟨by omega, hc⟩ N 0 (-1) 0 T0 [] (by omega) (by omega) (by omega) (rel_T0 false) (below_nil _)
      rw [triL_D]
      cases hd : triD b at_ N 0 (-1) with
      | none => rw [hd] at this; exact this
      | some t => rw [hd] at this; simpa using this
    · simp only [if_neg hc]
      rw [tabR_out hc N 0 _ _ _ (by omega) (by omega)]
      trivial

theorem tri_rel_cls (hb : Bytes b) {at_ : Int} (hf : 0 ≤ at_) : Both (Good true) (if ru2 b (at_ + 2) < 0 then none else tabR b at_ true (ru2 b (at_ + 2)).toNat 0 (-1) 0 T0) (cl2S b at_) := by
  unfold cl2S triS
  cases h : rd b (at_ + 2) 2 with
  | none => rw [ru2_none h, if_pos (by omega)]; trivial
  | some v =>
    have h2 := rd2 hb (at_ + 2)
    rw [h] at h2
    simp only [Option.getD_some] at h2
    have hw := rd_within h
    rw [ru2_some h, if_neg (by omega)]
    obtain ⟨N, rfl⟩ : ∃ N : Nat, v = N := ⟨v.toNat, by omega⟩
    simp only [Int.toNat_natCast]
    by_cases hc : at_ + 4 + 3 * (N : Int) * 2 ≤ b.length
    · simp only [if_pos hc]
      have := par_K hb (N := N) ⟨by omega, hc⟩ N 0 (-1) 0 T0 [] (by omega) (by omega) (by omega) (rel_T0 true) (below_nil _)
      rw [triL_D]
      cases hd : triD b at_ N 0 (-1) with
      | none => rw [hd] at this; exact this
      | some t => rw [hd] at this; simpa using this
    · simp only [if_neg hc]
      rw [tabR_out hc N 0 _ _ _ (by omega) (by omega)]
      trivial

theorem gly_rel (hb : Bytes b) {at_ : Int} (hf : 0 ≤ at_) : Both (fun T l => Good false T (toL l)) (if ru2 b (at_ + 2) < 0 then none else tabG b at_ (ru2 b (at_ + 2)).toNat 0 (-1) T0) (glyS b at_) := by
  unfold glyS
  cases h : rd b (at_ + 2) 2 with
  | none => rw [ru2_none h, if_pos (by omega)]; trivial
  | some v =>
    have h2 := rd2 hb (at_ + 2)
    rw [h] at h2
    simp only [Option.getD_some] at h2
    have hw := rd_within h
    rw [ru2_some h, if_neg (by omega)]
    obtain ⟨N, rfl⟩ : ∃ N : Nat, v = N := ⟨v.toNat, by omega⟩
    simp only [Int.toNat_natCast]
    by_cases hc : at_ + 4 + (N : Int) * 2 ≤ b.length
    · simp only [if_pos hc]
      exact par_G hb (N := N) ⟨by omega, hc⟩ N 0 (-1) T0 [] (by omega) (by omega) (rel_T0 false) (below_nil _)
    · simp only [if_neg hc]
      rw [tabG_out hc N 0 _ _ (by omega) (by omega) (by omega)]
      trivial

theorem cl1_rel (hb : Bytes b) {at_ : Int} (hf : 0 ≤ at_) :
    Both (Good true) (if ru2 b (at_ + 4) < 0 ∨ ru2 b (at_ + 2) + ru2 b (at_ + 4) > 65536 then none else tabC b at_ (ru2 b (at_ + 2)) (ru2 b (at_ + 4)).toNat 0 T0) (cl1S b at_) := by
  unfold cl1S
  cases h : rd b (at_ + 4) 2 with
  | none => rw [ru2_none h, if_pos (.inl (by omega))]; trivial
  | some v =>
    have h2 := rd2 hb (at_ + 4)
    have h3 := rd2 hb (at_ + 2)
    rw [h] at h2
    simp only [Option.getD_some] at h2
    have hw := rd_within h
    have e2 : rd b (at_ + 2) 2 = some ((rd b (at_ + 2) 2).getD 0) := by
      cases h8 : rd b (at_ + 2) 2 with
      | none => unfold rd at h8; rw [if_pos (by omega)] at h8; cases h8
      | some x => rfl
    rw [ru2_some h, ru2_some e2]
    generalize (rd b (at_ + 2) 2).getD 0 = first at *
    obtain ⟨N, rfl⟩ : ∃ N : Nat, v = N := ⟨v.toNat, by omega⟩
    simp only [Int.toNat_natCast]
    by_cases hs : first + (N : Int) ≤ 65536
    · rw [if_neg (by omega)]
      by_cases hc : at_ + 4 + 2 + (N : Int) * 2 ≤ b.length
      · simp only [if_pos (And.intro hc hs)]
        exact par_C hb (N := N) ⟨by omega, hc⟩ h3.1 hs N 0 T0 [] (by omega) (rel_T0 true) (below_nil _)
      · simp only [if_neg (fun hh : _ ∧ _ => hc hh.1)]
        rw [tabC_out hc N 0 _ (by omega) (by omega)]
        trivial
    · rw [if_pos (.inr (by omega))]
      simp only [if_neg (fun hh : _ ∧ _ => hs hh.2)]
      trivial

theorem form_cases (at_ : Int) : (ru2 b at_ = 1 ∧ (rd b at_ 2).getD 0 = 1 ∧ 0 ≤ at_) ∨ (ru2 b at_ = 2 ∧ (rd b at_ 2).getD 0 = 2 ∧ 0 ≤ at_) ∨ ((ru2 b at_ ≠ 1 ∧ ru2 b at_ ≠ 2) ∧ (rd b at_ 2).getD 0 ≠ 1 ∧ (rd b at_ 2).getD 0 ≠ 2) := by
  cases h : rd b at_ 2 with
  | none => rw [ru2_none h]; right; right; simp
  | some v =>
    have := rd_within h
    rw [ru2_some h]
    simp only [Option.getD_some]
    omega

theorem cov_rel (hb : Bytes b) (at_ : Int) : Both (fun T l => Good false T (toL l)) (tableS b at_ false) (covS b at_) := by
  unfold tableS covS
  rcases form_cases (b := b) at_ with ⟨h1, h2, h3⟩ | ⟨h1, h2, h3⟩ | ⟨h1, h2, h3⟩
  · rw [if_neg (by omega), if_neg (by simp), if_pos h2]
    simp only [if_pos h1]
    exact gly_rel hb h3
  · simp only [h1, h2, ne_eq, show ¬ (2 : Int) = 1 by omega, not_false_eq_true, not_true_eq_false, and_false, false_and, if_false, if_true]
    exact tri_rel_cov hb h3
  · rw [if_pos h1, if_neg h2, if_neg h3]
    trivial

theorem cls_rel (hb : Bytes b) (at_ : Int) : Both (Good true) (tableS b at_ true) (clsS b at_) := by
  unfold tableS clsS
  rcases form_cases (b := b) at_ with ⟨h1, h2, h3⟩ | ⟨h1, h2, h3⟩ | ⟨h1, h2, h3⟩
  · rw [if_neg (by omega), if_pos ⟨h1, rfl⟩, if_pos h2]
    exact cl1_rel hb h3
  · simp only [h1, h2, ne_eq, show ¬ (2 : Int) = 1 by omega, not_false_eq_true, not_true_eq_false, and_false, false_and, if_false, if_true]
    exact tri_rel_cls hb h3
  · rw [if_pos h1, if_neg h2, if_neg h3]
    trivial
end

/-! ### A list, found again -/

theorem ofS_mem {l : List Cls} (h : CanC l) : ∀ {s : Cls}, s ∈ l → ∀ {x : Int}, s.lo ≤ x → x ≤ s.hi → ofS l x = s.cl := by
  obtain ⟨h1, h2⟩ := h
  induction l with
  | nil => intro s hs; cases hs
  | cons a l ih =>
    intro s hs x hx1 hx2
    rw [List.pairwise_cons] at h1
    rw [ofS]
    rcases List.mem_cons.1 hs with rfl | hs
    · rw [if_pos ⟨hx1, hx2⟩]
    · have := (h1.1 s hs).1
      rw [if_neg (by omega)]
      exact ih h1.2 (fun t ht => h2 t (by simp [ht])) hs hx1 hx2

theorem ofS_hit {l : List Cls} {x : Int} (h : ofS l x ≠ 0) : ∃ s ∈ l, s.lo ≤ x ∧ x ≤ s.hi ∧ ofS l x = s.cl := by
  induction l with
  | nil => exact absurd rfl h
  | cons a l ih =>
    rw [ofS] at h ⊢
    by_cases hx : a.lo ≤ x ∧ x ≤ a.hi
    · rw [if_pos hx]
      exact ⟨a, by simp, hx.1, hx.2, rfl⟩
    · rw [if_neg hx] at h ⊢
      obtain ⟨s, hs, h1⟩ := ih h
      exact ⟨s, by simp [hs], h1⟩

/-- The first j ranges are below i, the others not. -/
def ScanAt (l : List Cls) (i : Int) (j : Nat) : Prop := j ≤ l.length ∧ (∀ s ∈ l.take j, s.hi < i) ∧ ∀ s ∈ l.drop j, i ≤ s.lo

theorem scan_init (l : List Cls) (h : CanC l) : ScanAt l 0 0 := ⟨by omega, fun s hs => by simp at hs, fun s hs => (h.2 s (by simpa using hs)).1⟩

theorem scan_zero {l : List Cls} (h : CanC l) {i : Int} {j : Nat} (hs : ScanAt l i j) (h0 : ofS l i = 0) : ScanAt l (i + 1) j := by
  obtain ⟨s1, s2, s3⟩ := hs
  refine ⟨s1, fun s hs => by have := s2 s hs; omega, fun s hs => ?_⟩
  have hm : s ∈ l := List.mem_of_mem_drop hs
  have := s3 s hs
  obtain ⟨o1, o2, o3, o4⟩ := h.2 s hm
  by_cases e : s.lo = i
  · have := ofS_mem h hm (x := i) (by omega) (by omega)
    rw [h0] at this
    exact absurd this.symm o4
  · omega

theorem scan_hit {l : List Cls} (h : CanC l) {i : Int} {j : Nat} (hs : ScanAt l i j) (h0 : ofS l i ≠ 0) : j < l.length ∧ (l.getD j default).lo = i ∧ (l.getD j default).cl = ofS l i := by
  obtain ⟨s1, s2, s3⟩ := hs
  obtain ⟨s, hm, h1, h2, h3⟩ := ofS_hit h0
  have hdrop : s ∈ l.drop j := by
    rw [← List.take_append_drop j l] at hm
    rcases List.mem_append.1 hm with hm | hm
    · have := s2 s hm; omega
    · exact hm
  have hj : j < l.length := by
    by_cases e : j < l.length
    · exact e
    · rw [List.drop_of_length_le (by omega)] at hdrop; cases hdrop
  have hlo := s3 s hdrop
  have hhead : l.getD j default = l[j] := by simp [hj]
  have heq : s = l[j] := by
    rw [List.drop_eq_getElem_cons hj] at hdrop
    rcases List.mem_cons.1 hdrop with e | hrest
    · exact e
    · exfalso
      have hp : (l[j] :: l.drop (j + 1)).Pairwise sepC := by
        rw [← List.drop_eq_getElem_cons hj]
        exact h.1.sublist (List.drop_sublist _ _)
      have q1 := (List.rel_of_pairwise_cons hp hrest).1
      have q2 := s3 l[j] (by rw [List.drop_eq_getElem_cons hj]; exact List.mem_cons_self)
      obtain ⟨o1, o2, -⟩ := h.2 l[j] (List.getElem_mem hj)
      omega
  rw [hhead, ← heq]
  exact ⟨hj, by omega, h3.symm⟩

/-- Inside a range the value stays, at its end it doesn't. -/
theorem inside_val {l : List Cls} (h : CanC l) {j : Nat} (hj : j < l.length) {x : Int} (h1 : (l.getD j default).lo ≤ x) (h2 : x ≤ (l.getD j default).hi) : ofS l x = (l.getD j default).cl := by
  have hhead : l.getD j default = l[j] := by simp [hj]
  rw [hhead] at h1 h2 ⊢
  exact ofS_mem h (List.getElem_mem hj) h1 h2

theorem scan_end {l : List Cls} (h : CanC l) {j : Nat} (hj : j < l.length) : ofS l ((l.getD j default).hi + 1) ≠ (l.getD j default).cl := by
  have hhead : l.getD j default = l[j] := by simp [hj]
  rw [hhead]
  obtain ⟨o1, o2, o3, o4⟩ := h.2 l[j] (List.getElem_mem hj)
  intro e
  obtain ⟨s, hm, h1, h2, h3⟩ := ofS_hit (l := l) (x := l[j].hi + 1) (by rw [e]; exact o4)
  rw [e] at h3
  obtain ⟨k, hk, rfl⟩ := List.getElem_of_mem hm
  have hp := List.pairwise_iff_getElem.1 h.1
  rcases Nat.lt_trichotomy k j with hlt | heq | hgt
  · have := (hp k j hk hj hlt).1
    omega
  · subst heq; omega
  · have := hp j k hj hk hgt
    obtain ⟨q1, q2⟩ := this
    exact q2 ⟨by omega, h3.symm⟩

theorem scan_next {l : List Cls} (h : CanC l) {i : Int} {j : Nat} (hs : ScanAt l i j) (hj : j < l.length) : ScanAt l ((l.getD j default).hi + 1) (j + 1) := by
  obtain ⟨s1, s2, s3⟩ := hs
  have hhead : l.getD j default = l[j] := by simp [hj]
  rw [hhead]
  have hlo := s3 l[j] (by rw [List.drop_eq_getElem_cons hj]; exact List.mem_cons_self)
  obtain ⟨o1, o2, o3, o4⟩ := h.2 l[j] (List.getElem_mem hj)
  refine ⟨by omega, fun s hs => ?_, fun s hs => ?_⟩
  · rw [List.take_succ_eq_append_getElem hj, List.mem_append, List.mem_singleton] at hs
    rcases hs with hs | rfl
    · have := s2 s hs; omega
    · omega
  · have hp : (l[j] :: l.drop (j + 1)).Pairwise sepC := by
      rw [← List.drop_eq_getElem_cons hj]
      exact h.1.sublist (List.drop_sublist _ _)
    have q1 := (List.rel_of_pairwise_cons hp hs).1
    omega

theorem scan_last {l : List Cls} (h : CanC l) {j : Nat} (hs : ScanAt l NG j) : l.take j = l := by
  obtain ⟨s1, s2, s3⟩ := hs
  have : l.drop j = [] := by
    rcases hd : l.drop j with _ | ⟨s, r⟩
    · rfl
    · exfalso
      have q := s3 s (by rw [hd]; simp)
      obtain ⟨o1, o2, o3, o4⟩ := h.2 s (List.mem_of_mem_drop (i := j) (by rw [hd]; simp))
      rw [NG_eq] at q
      omega
  have hh := List.take_append_drop j l
  rw [this, List.append_nil] at hh
  exact hh
end Go.Proofs.Ytohmjbgcmccplaa
