/- Groups, as they are put together: rising, no two of them one, each glyph from 1 to one below how many there are. No condition. -/
import Derived.Test.YtohmjbgcmccplaaC9
namespace Go.Proofs.Ytohmjbgcmccplaa
open Go Go.Ab
set_option linter.unusedVariables false

def good (n : Int) (g : Grp) : Prop := 0 ≤ g.lo ∧ g.lo ≤ g.hi ∧ g.hi ≤ 1114111 ∧ 1 ≤ g.gl ∧ g.gl + (g.hi - g.lo) < n
def sep (p g : Grp) : Prop := p.hi < g.lo ∧ ¬ (g.lo = p.hi + 1 ∧ g.gl = p.gl + (p.hi - p.lo) + 1)
def MayL (n : Int) (l : List Grp) : Prop := (∀ k, k < l.length → good n (l.getD k default)) ∧ ∀ k, k + 1 < l.length → sep (l.getD k default) (l.getD (k + 1) default)
/-- No code above this one. -/
def Top (l : List Grp) (last : Int) : Prop := ∀ p l0, l = l0 ++ [p] → p.hi ≤ last

theorem getD_snoc (l : List Grp) (p : Grp) (k : Nat) : (l ++ [p]).getD k default = if k < l.length then l.getD k default else if k = l.length then p else default := by
  by_cases h : k < l.length
  · rw [if_pos h]
    simp only [List.getD_eq_getElem?_getD, List.getElem?_append_left h]
  · rw [if_neg h]
    by_cases e : k = l.length
    · subst e; simp
    · rw [if_neg e]
      simp only [List.getD_eq_getElem?_getD]
      rw [List.getElem?_eq_none (by simp; omega)]
      rfl

theorem mayL_nil (n : Int) : MayL n [] := ⟨fun k h => by simp at h, fun k h => by simp at h⟩
theorem top_nil (a : Int) : Top [] a := fun p l0 h => by simp at h

theorem mayL_snoc {n : Int} {l : List Grp} {p : Grp} (h : MayL n l) (hp : good n p) (hs : ∀ q l0, l = l0 ++ [q] → sep q p) : MayL n (l ++ [p]) := by
  refine ⟨fun k hk => ?_, fun k hk => ?_⟩
  · rw [getD_snoc]
    split
    · rename_i h1; exact h.1 k h1
    · rw [if_pos (by simp at hk; omega)]; exact hp
  · simp only [List.length_append, List.length_cons, List.length_nil] at hk
    rw [getD_snoc, getD_snoc, if_pos (by omega)]
    split
    · rename_i h1; exact h.2 k h1
    · rename_i h1
      rw [if_pos (by omega)]
      rcases List.eq_nil_or_concat l with e | ⟨l0, q, e⟩
      · subst e; simp at hk
      · rw [List.concat_eq_append] at e
        have := hs q l0 e
        subst e
        simp only [List.length_append, List.length_cons, List.length_nil] at h1 hk
        rw [getD_snoc, if_neg (by omega), if_pos (by omega)]
        exact this

theorem mayL_init {n : Int} {l : List Grp} {p : Grp} (h : MayL n (l ++ [p])) : MayL n l ∧ good n p ∧ ∀ q l0, l = l0 ++ [q] → sep q p := by
  refine ⟨⟨fun k hk => ?_, fun k hk => ?_⟩, ?_, fun q l0 e => ?_⟩
  · have := h.1 k (by simp; omega)
    rw [getD_snoc, if_pos hk] at this
    exact this
  · have := h.2 k (by simp; omega)
    rw [getD_snoc, getD_snoc, if_pos (by omega), if_pos hk] at this
    exact this
  · have := h.1 l.length (by simp)
    rw [getD_snoc, if_neg (by omega), if_pos rfl] at this
    exact this
  · have h2 := h.2 l0.length (by rw [e]; simp)
    subst e
    rw [getD_snoc, getD_snoc, getD_snoc, if_pos (by simp), if_neg (by omega), if_pos rfl, if_neg (by simp), if_pos (by simp)] at h2
    exact h2

theorem addS_may {n : Int} {l : List Grp} {last from_ to glyph : Int} (h : MayL n l) (ht : Top l last) (h1 : last < from_) (h2 : from_ ≤ to) (h3 : to ≤ 1114111) (h4 : 0 ≤ from_) (h5 : 0 ≤ glyph) :
    MayL n (addS n l from_ to glyph) ∧ Top (addS n l from_ to glyph) to := by
  unfold addS
  split
  · exact ⟨h, fun p l0 e => by have := ht p l0 e; omega⟩
  · rename_i hft
    have hF : gFrom from_ glyph = from_ ∨ gFrom from_ glyph = from_ + 1 := by unfold gFrom; split <;> simp
    have hG : 1 ≤ gGlyph glyph := by unfold gGlyph; split <;> omega
    have hT : gTo n from_ to glyph ≤ to ∧ gTo n from_ to glyph ≤ gFrom from_ glyph + n - 1 - gGlyph glyph := by unfold gTo; omega
    rcases List.eq_nil_or_concat l with e | ⟨l0, p, e⟩
    · subst e
      simp only [List.getLast?_nil]
      refine ⟨mayL_snoc (l := []) h ⟨by simp only []; omega, by simp only []; omega, by simp only []; omega, hG, by simp only []; omega⟩ (fun q l0 e => by simp at e), fun p l0 e => ?_⟩
      have : p = ⟨gFrom from_ glyph, gTo n from_ to glyph, gGlyph glyph⟩ := by
        rw [show [(⟨gFrom from_ glyph, gTo n from_ to glyph, gGlyph glyph⟩ : Grp)] = [] ++ [⟨gFrom from_ glyph, gTo n from_ to glyph, gGlyph glyph⟩] from rfl] at e
        exact (List.append_inj' e rfl).2 |> fun h => by injection h with h _; exact h.symm
      subst this
      exact hT.1
    · rw [List.concat_eq_append] at e
      subst e
      obtain ⟨m1, m2, m3⟩ := mayL_init h
      have hp := ht p l0 rfl
      simp only [List.getLast?_append, List.getLast?_singleton, Option.some_or, List.dropLast_concat]
      split
      · rename_i hc
        obtain ⟨g1, g2, g3, g4, g5⟩ := m2
        refine ⟨mayL_snoc m1 ⟨g1, ?_, ?_, g4, ?_⟩ (fun q l1 e => m3 q l1 e), fun p' l1 e => ?_⟩
        · simp only []; omega
        · simp only []; omega
        · simp only []; omega
        · have e2 := (List.append_inj' e rfl).2
          injection e2 with e2 _
          subst e2
          exact hT.1
      · rename_i hc
        refine ⟨mayL_snoc h ⟨by simp only []; omega, by simp only []; omega, by simp only []; omega, hG, by simp only []; omega⟩ (fun q l1 e => ?_), fun p' l1 e => ?_⟩
        · have e2 := (List.append_inj' e rfl).2
          injection e2 with e2 _
          subst e2
          refine ⟨by simp only []; omega, fun hh => hc ⟨?_, ?_⟩⟩
          · have := hh.1; simp only [] at this; omega
          · have := hh.2; simp only [] at this; omega
        · have e2 := (List.append_inj' e rfl).2
          injection e2 with e2 _
          subst e2
          exact hT.1

theorem segS_may {b : List Int} (hb : Bytes b) {n from_ delta offset place : Int} (hd : 0 ≤ delta) : ∀ {m : Nat} {c last : Int} {l l' : List Grp}, last < c → 0 ≤ c → c + m ≤ 65536 → MayL n l → Top l last → segS b n from_ delta offset place m c l = some l' → MayL n l' ∧ Top l' (max last (c + m - 1))
  | 0, c, last, l, l', _, _, _, hl, ht, h => by
    simp [segS] at h; subst h
    exact ⟨hl, fun p l0 e => by have := ht p l0 e; omega⟩
  | m + 1, c, last, l, l', hlc, hc, hn, hl, ht, h => by
    rw [segS] at h
    split at h
    · cases h
    · rename_i g hgl
      have hr := rd2 hb (place + offset + 2 * (c - from_))
      have hg0 : 0 ≤ g := by
        unfold segGl at hgl
        split at hgl
        · injection hgl with e; rw [← e, Int.tmod_eq_emod_of_nonneg (by omega)]; omega
        · split at hgl
          · split at hgl
            · injection hgl with e; omega
            · injection hgl with e; rw [← e, Int.tmod_eq_emod_of_nonneg (by omega)]; omega
          · cases hgl
      split at h
      · obtain ⟨q1, q2⟩ := segS_may hb hd (last := c) (by omega) (by omega) (by omega) hl (fun p l0 e => by have := ht p l0 e; omega) h
        exact ⟨q1, fun p l0 e => by have := q2 p l0 e; omega⟩
      · obtain ⟨a1, a2⟩ := addS_may (from_ := c) (to := c) (glyph := g) hl ht hlc (by omega) (by omega) hc hg0
        obtain ⟨q1, q2⟩ := segS_may hb hd (last := c) (by omega) (by omega) (by omega) a1 a2 h
        exact ⟨q1, fun p l0 e => by have := q2 p l0 e; omega⟩

theorem segsS_may {b : List Int} (hb : Bytes b) {n at_ : Int} {N : Nat} (hc : 0 ≤ at_ + 6 ∧ at_ + 16 + 2 * N + 3 * N * 2 ≤ b.length) :
    ∀ {m k : Nat} {last : Int} {l l' : List Grp}, k + m = N → -1 ≤ last → MayL n l → Top l last → segsS b n at_ N m k last l = some l' → MayL n l'
  | 0, k, last, l, l', _, _, hl, _, h => by simp [segsS] at h; subst h; exact hl
  | m + 1, k, last, l, l', hk, h0, hl, ht, h => by
    rw [segsS] at h
    split at h
    · cases h
    · rename_i hft
      have t2 := nm2 hb (a := at_ + 14 + k * 2) (by omega) (by omega)
      have t3 := nm2 hb (a := at_ + 16 + 2 * N + (N + k) * 2) (by omega) (by omega)
      split at h
      · cases h
      · rename_i l1 hl1
        unfold sDelta sOff sPlace at hl1
        unfold sFrom sTo at hft hl1
        unfold sTo at h
        obtain ⟨q1, q2⟩ := segS_may hb t3.1 (by omega) (by omega) (by omega) hl ht hl1
        refine segsS_may hb hc (k := k + 1) (by omega) ?_ q1 (fun p l0 e => ?_) h
        · omega
        · have := q2 p l0 e; omega

theorem wideL_may {b : List Int} (hb : Bytes b) {n at_ : Int} {N : Nat} (hc : 0 ≤ at_ + 12 ∧ at_ + 16 + 3 * N * 4 ≤ b.length) :
    ∀ {m k : Nat} {last : Int} {l l' : List Grp}, k + m = N → -1 ≤ last → MayL n l → Top l last → wideL b n at_ m k last l = some l' → MayL n l'
  | 0, k, last, l, l', _, _, hl, _, h => by simp [wideL] at h; subst h; exact hl
  | m + 1, k, last, l, l', hk, h0, hl, ht, h => by
    rw [wideL] at h
    split at h
    · cases h
    · rename_i hft
      have t2 := nm4 hb (a := at_ + 16 + (3 * (k : Int) + 2) * 4) (by omega) (by omega)
      obtain ⟨q1, q2⟩ := addS_may (n := n) (glyph := nm b (at_ + 16 + (3 * (k : Int) + 2) * 4) 4) hl ht (from_ := nm b (at_ + 16 + (3 * (k : Int)) * 4) 4) (to := nm b (at_ + 16 + (3 * (k : Int) + 1) * 4) 4) (by omega) (by omega) (by omega) (by omega) t2.1
      exact wideL_may hb hc (k := k + 1) (by omega) (by omega) q1 q2 h

theorem mayL_lo {n : Int} {l : List Grp} (h : MayL n l) : ∀ k, k < l.length → (k : Int) ≤ (l.getD k default).lo
  | 0, hk => (h.1 0 hk).1
  | k + 1, hk => by
    have h1 := mayL_lo h k (by omega)
    have h2 := (h.2 k hk).1
    have h3 := (h.1 k (by omega)).2.1
    omega
theorem mayL_len {n : Int} {l : List Grp} (h : MayL n l) : l.length ≤ 1114112 := by
  rcases Nat.eq_zero_or_pos l.length with e | e
  · omega
  · have h1 := mayL_lo h (l.length - 1) (by omega)
    obtain ⟨g1, g2, g3, -⟩ := h.1 (l.length - 1) (by omega)
    omega

theorem rd2_pos {b : List Int} (hb : Bytes b) {a m : Int} (h : rd b a 2 = some m) : 0 ≤ m := by
  have := rd2 hb a
  rw [h] at this
  exact this.1
theorem rd4_pos {b : List Int} (hb : Bytes b) {a m : Int} (h : rd b a 4 = some m) : 0 ≤ m := by
  have := rd4 hb a
  rw [h] at this
  exact this.1

theorem codes_may {b : List Int} (hb : Bytes b) {n at_ : Int} {l : List Grp} (h : codesS b at_ n = some l) : MayL n l := by
  unfold codesS at h
  split at h
  · cases h
  · split at h
    · split at h
      · cases h
      · split at h
        · cases h
        · unfold pickS at h
          split at h
          · unfold wideS at h
            split at h
            · cases h
            · rename_i m hm
              have hw := rd_within hm
              split at h
              · cases h
              · split at h
                · rename_i hle
                  have hm0 : 0 ≤ m := rd4_pos hb hm
                  obtain ⟨N, rfl⟩ : ∃ N : Nat, m = N := ⟨m.toNat, by omega⟩
                  rw [Int.toNat_natCast] at h
                  exact wideL_may hb ⟨by omega, by omega⟩ (k := 0) (by omega) (by omega) (mayL_nil n) (top_nil _) h
                · cases h
          · split at h
            · unfold segmentsS at h
              split at h
              · cases h
              · rename_i m hm
                split at h
                · cases h
                · split at h
                  · rename_i hle
                    have hw := rd_within hm
                    have hm0 : 0 ≤ m := rd2_pos hb hm
                    obtain ⟨N, hN⟩ : ∃ N : Nat, m / 2 = N := ⟨(m / 2).toNat, by omega⟩
                    rw [hN, Int.toNat_natCast] at h
                    rw [hN] at hle
                    exact segsS_may hb ⟨by omega, by omega⟩ (k := 0) (by omega) (by omega) (mayL_nil n) (top_nil _) h
                  · cases h
            · injection h with h; subst h; exact mayL_nil n
    · cases h
end Go.Proofs.Ytohmjbgcmccplaa
