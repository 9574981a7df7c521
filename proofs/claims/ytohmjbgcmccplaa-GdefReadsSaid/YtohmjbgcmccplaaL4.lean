/- The document's tables of values tell what the readers of lists tell. No condition. -/
import Derived.Test.YtohmjbgcmccplaaR2
import Derived.Test.YtohmjbgcmccplaaL3
namespace Go.Proofs.Ytohmjbgcmccplaa
open Go Go.Ab
set_option linter.unusedVariables false

/-- Both are there, and stand so to each other, or neither is. -/
def Both {α β : Type} (R : α → β → Prop) : Option α → Option β → Prop
  | some x, some y => R x y
  | none, none => True
  | _, _ => False

def val (cl : Bool) (t : Int) : Int := if cl then (if t ≤ 0 then 0 else t) else (if 0 ≤ t then 1 else 0)
def Rel (cl : Bool) (T : List Int) (l : List Cls) : Prop := T.length = NG ∧ ∀ x : Nat, x < NG → val cl (T.getD x 0) = ofS l x
def Good (cl : Bool) (T : List Int) (l : List Cls) : Prop := Rel cl T l ∧ CanC l

theorem getD_set (T : List Int) (g x : Nat) (v : Int) (h : g < T.length) : (T.set g v).getD x 0 = if x = g then v else T.getD x 0 := by
  simp only [List.getD_eq_getElem?_getD, List.getElem?_set]
  by_cases e : g = x
  · subst e; simp [h]
  · rw [if_neg e, if_neg (Ne.symm e)]

theorem fill_get_f {z : Int} : ∀ (m : Nat) (g nx : Int) (T : List Int), 0 ≤ g → g + m ≤ T.length → ∀ x : Nat, (fill false z m g nx T).getD x 0 = if g ≤ x ∧ (x : Int) < g + m then nx + (x - g) else T.getD x 0
  | 0, g, nx, T, _, _, x => by rw [if_neg (by omega)]; rfl
  | m + 1, g, nx, T, h0, hm, x => by
    rw [show fill false z (m + 1) g nx T = fill false z m (g + 1) (nx + 1) (T.set g.toNat nx) from rfl]
    rw [fill_get_f m (g + 1) (nx + 1) _ (by omega) (by rw [List.length_set]; omega) x, getD_set _ _ _ _ (by omega)]
    by_cases h1 : g + 1 ≤ x ∧ (x : Int) < g + 1 + m
    · rw [if_pos h1, if_pos (by omega)]; omega
    · rw [if_neg h1]
      by_cases h2 : x = g.toNat
      · rw [if_pos h2, if_pos (by omega)]; omega
      · rw [if_neg h2, if_neg (by omega)]
theorem fill_get_t {z : Int} : ∀ (m : Nat) (g nx : Int) (T : List Int), 0 ≤ g → g + m ≤ T.length → ∀ x : Nat, (fill true z m g nx T).getD x 0 = if g ≤ x ∧ (x : Int) < g + m then z else T.getD x 0
  | 0, g, nx, T, _, _, x => by rw [if_neg (by omega)]; rfl
  | m + 1, g, nx, T, h0, hm, x => by
    rw [show fill true z (m + 1) g nx T = fill true z m (g + 1) (nx + 1) (T.set g.toNat z) from rfl]
    rw [fill_get_t m (g + 1) (nx + 1) _ (by omega) (by rw [List.length_set]; omega) x, getD_set _ _ _ _ (by omega)]
    by_cases h1 : g + 1 ≤ x ∧ (x : Int) < g + 1 + m
    · rw [if_pos h1, if_pos (by omega)]
    · rw [if_neg h1]
      by_cases h2 : x = g.toNat
      · rw [if_pos h2, if_pos (by omega)]
      · rw [if_neg h2, if_neg (by omega)]

theorem rel_T0 (cl : Bool) : Good cl T0 [] := by
  refine ⟨⟨T0_len, fun x hx => ?_⟩, canC_nil⟩
  rw [T0_get x hx]
  cases cl <;> rfl

theorem rel_range {cl : Bool} {T T' : List Int} {l : List Cls} {lo hi v : Int} (h : Good cl T l) (hb : Below l lo) (h0 : 0 ≤ lo) (h1 : lo ≤ hi) (h2 : hi ≤ 65535) (hlen : T'.length = NG)
    (hT : ∀ x : Nat, x < NG → (lo ≤ x ∧ (x : Int) ≤ hi → val cl (T'.getD x 0) = v) ∧ (¬ (lo ≤ x ∧ (x : Int) ≤ hi) → T'.getD x 0 = T.getD x 0)) : Good cl T' (clsdS l ⟨lo, hi, v⟩) ∧ Below (clsdS l ⟨lo, hi, v⟩) (hi + 1) := by
  obtain ⟨c1, c2, c3⟩ := clsdS_can (s := ⟨lo, hi, v⟩) h.2 hb h0 h1 h2
  refine ⟨⟨⟨hlen, fun x hx => ?_⟩, c1⟩, c2⟩
  rw [c3 x]
  simp only []
  by_cases hc : lo ≤ (x : Int) ∧ (x : Int) ≤ hi
  · rw [if_pos hc]; exact (hT x hx).1 hc
  · rw [if_neg hc, (hT x hx).2 hc]; exact h.1.2 x hx

theorem rel_one {cl : Bool} {T : List Int} {l : List Cls} {g v : Int} (h : Good cl T l) (hb : Below l g) (h0 : 0 ≤ g) (h2 : g ≤ 65535) : Good cl (T.set g.toNat v) (clsdS l ⟨g, g, val cl v⟩) ∧ Below (clsdS l ⟨g, g, val cl v⟩) (g + 1) := by
  refine rel_range h hb h0 (Int.le_refl _) h2 (by rw [List.length_set]; exact h.1.1) (fun x hx => ?_)
  have hl : g.toNat < T.length := by rw [h.1.1, NG_eq]; omega
  refine ⟨fun hc => ?_, fun hc => ?_⟩
  · rw [getD_set _ _ _ _ hl, if_pos (by omega)]
  · rw [getD_set _ _ _ _ hl, if_neg (by omega)]

theorem rel_fill {cl : Bool} {T : List Int} {l : List Cls} {lo hi z nx v : Int} (h : Good cl T l) (hb : Below l lo) (h0 : 0 ≤ lo) (h1 : lo ≤ hi) (h2 : hi ≤ 65535) (hz : 0 ≤ z) (hnx : 0 ≤ nx) (hv : v = if cl then z else 1) :
    Good cl (fill cl z (hi - lo + 1).toNat lo nx T) (clsdS l ⟨lo, hi, v⟩) ∧ Below (clsdS l ⟨lo, hi, v⟩) (hi + 1) := by
  have hT := h.1.1
  rw [NG_eq] at hT
  refine rel_range h hb h0 h1 h2 (by rw [fill_len]; exact h.1.1) (fun x hx => ?_)
  cases cl
  · rw [fill_get_f _ _ _ _ h0 (by rw [hT]; omega)]
    refine ⟨fun hc => ?_, fun hc => ?_⟩
    · rw [if_pos (by omega), hv]
      unfold val
      simp only [Bool.false_eq_true, if_false]
      rw [if_pos (by omega)]
    · rw [if_neg (by omega)]
  · rw [fill_get_t _ _ _ _ h0 (by rw [hT]; omega)]
    refine ⟨fun hc => ?_, fun hc => ?_⟩
    · rw [if_pos (by omega), hv]
      unfold val
      simp only [if_true]
      by_cases e : z ≤ 0
      · rw [if_pos e]; omega
      · rw [if_neg e]
    · rw [if_neg (by omega)]

section
variable {b : List Int}

theorem ru2_in {a : Int} (h0 : 0 ≤ a) (h1 : a + 2 ≤ b.length) : ru2 b a = nm b a 2 := by
  unfold ru2 rd nm
  rw [if_pos (by omega)]
  rfl
theorem ru2_out {a : Int} (h : ¬ (0 ≤ a ∧ a + 2 ≤ b.length)) : ru2 b a = -1 := by
  unfold ru2 rd
  rw [if_neg (by omega)]
  rfl

theorem par_G (hb : Bytes b) {at_ : Int} {N : Nat} (hc : 0 ≤ at_ + 2 ∧ at_ + 4 + N * 2 ≤ b.length) : ∀ (q k : Nat) (last : Int) (T : List Int) (l : List Spn), k + q = N → -1 ≤ last → Good false T (toL l) → Below (toL l) (last + 1) →
    Both (fun T l => Good false T (toL l)) (tabG b at_ q k last T) (glyL b at_ q k last l)
  | 0, k, last, T, l, _, _, h, _ => h
  | q + 1, k, last, T, l, hk, h0, h, hbl => by
    rw [tabG, glyL]
    have e1 : ru2 b (at_ + 4 + 2 * k) = nm b (at_ + 4 + k * 2) 2 := by
      rw [ru2_in (by omega) (by omega), show at_ + 4 + 2 * (k : Int) = at_ + 4 + k * 2 by omega]
    have t := nm2 hb (a := at_ + 4 + k * 2) (by omega) (by omega)
    rw [e1]
    split
    · trivial
    · rename_i hg
      obtain ⟨r1, r2⟩ := rel_one (v := (k : Int)) h (g := nm b (at_ + 4 + k * 2) 2) (fun s hs => by have := hbl s hs; omega) t.1 (by omega)
      have ev : val false (k : Int) = 1 := by unfold val; simp
      rw [ev] at r1 r2
      refine par_G hb hc q (k + 1) _ _ _ (by omega) (by omega) ?_ ?_
      · rw [joinS_toL]; exact r1
      · rw [joinS_toL]; exact r2

theorem tabG_out {at_ : Int} {N : Nat} (hc : ¬ at_ + 4 + N * 2 ≤ b.length) : ∀ (q k : Nat) (last : Int) (T : List Int), k + q = N → 0 < q → -1 ≤ last → tabG b at_ q k last T = none
  | 0, k, last, T, _, h, _ => by omega
  | q + 1, k, last, T, hk, _, h0 => by
    rw [tabG]
    split
    · rfl
    · rename_i hg
      by_cases hq : q = 0
      · have := ru2_out (b := b) (a := at_ + 4 + 2 * k) (by omega)
        omega
      · exact tabG_out hc q (k + 1) _ _ (by omega) (by omega) (by omega)

theorem par_C (hb : Bytes b) {at_ first : Int} {N : Nat} (hc : 0 ≤ at_ + 2 ∧ at_ + 4 + 2 + N * 2 ≤ b.length) (hf : 0 ≤ first) (hs : first + N ≤ 65536) : ∀ (q k : Nat) (T : List Int) (l : List Cls), k + q = N → Good true T l → Below l (first + k) →
    Both (Good true) (tabC b at_ first q k T) (some (cl1L b at_ first q k l))
  | 0, k, T, l, _, h, _ => h
  | q + 1, k, T, l, hk, h, hbl => by
    rw [tabC, cl1L]
    have e1 : ru2 b (at_ + 6 + 2 * k) = nm b (at_ + 4 + 2 + k * 2) 2 := by
      rw [ru2_in (by omega) (by omega), show at_ + 6 + 2 * (k : Int) = at_ + 4 + 2 + k * 2 by omega]
    have t := nm2 hb (a := at_ + 4 + 2 + k * 2) (by omega) (by omega)
    rw [e1, if_neg (by omega)]
    obtain ⟨r1, r2⟩ := rel_one (v := nm b (at_ + 4 + 2 + k * 2) 2) h (g := first + k) hbl (by omega) (by omega)
    have ev : val true (nm b (at_ + 4 + 2 + k * 2) 2) = nm b (at_ + 4 + 2 + k * 2) 2 := by
      unfold val
      simp only [if_true]
      by_cases e : nm b (at_ + 4 + 2 + k * 2) 2 ≤ 0
      · rw [if_pos e]; omega
      · rw [if_neg e]
    rw [ev] at r1 r2
    exact par_C hb hc hf hs q (k + 1) _ _ (by omega) r1 (fun s hs => by have := r2 s hs; omega)

theorem tabC_out {at_ first : Int} {N : Nat} (hc : ¬ at_ + 4 + 2 + N * 2 ≤ b.length) : ∀ (q k : Nat) (T : List Int), k + q = N → 0 < q → tabC b at_ first q k T = none
  | 0, k, T, _, h => by omega
  | q + 1, k, T, hk, _ => by
    rw [tabC]
    split
    · rfl
    · rename_i hg
      by_cases hq : q = 0
      · have := ru2_out (b := b) (a := at_ + 6 + 2 * k) (by omega)
        omega
      · exact tabC_out hc q (k + 1) _ (by omega) (by omega)

/-- The triples from the i-th on, without what lies ahead. -/
def triD (b : List Int) (at_ : Int) : Nat → Nat → Int → Option (List Cls)
  | 0, _, _ => some []
  | m + 1, i, last => if nm b (at_ + 4 + (3 * i) * 2) 2 ≤ last ∨ nm b (at_ + 4 + (3 * i + 1) * 2) 2 < nm b (at_ + 4 + (3 * i) * 2) 2 then none
    else (triD b at_ m (i + 1) (nm b (at_ + 4 + (3 * i + 1) * 2) 2)).map fun r => ⟨nm b (at_ + 4 + (3 * i) * 2) 2, nm b (at_ + 4 + (3 * i + 1) * 2) 2, nm b (at_ + 4 + (3 * i + 2) * 2) 2⟩ :: r
theorem triL_D {at_ : Int} : ∀ (m i : Nat) (last : Int) (l : List Cls), triL b at_ m i last l = (triD b at_ m i last).map (l ++ ·)
  | 0, i, last, l => by simp [triL, triD]
  | m + 1, i, last, l => by
    rw [triL, triD]
    split
    · rfl
    · rw [triL_D m (i + 1), Option.map_map]
      congr 1
      funext r
      simp

theorem par_R (hb : Bytes b) {at_ : Int} {N : Nat} (hc : 0 ≤ at_ + 2 ∧ at_ + 4 + 3 * N * 2 ≤ b.length) : ∀ (q k : Nat) (last nx : Int) (T : List Int) (l : List Spn), k + q = N → -1 ≤ last → 0 ≤ nx → Good false T (toL l) → Below (toL l) (last + 1) →
    Both (fun T l => Good false T (toL l)) (tabR b at_ false q k last nx T) ((triD b at_ q k last).bind fun t => ranL t nx l)
  | 0, k, last, nx, T, l, _, _, _, h, _ => h
  | q + 1, k, last, nx, T, l, hk, h0, hn, h, hbl => by
    rw [tabR, triD]
    have e1 : ru2 b (at_ + 4 + 6 * k) = nm b (at_ + 4 + (3 * k) * 2) 2 := by
      rw [ru2_in (by omega) (by omega), show at_ + 4 + 6 * (k : Int) = at_ + 4 + (3 * k) * 2 by omega]
    have e2 : ru2 b (at_ + 6 + 6 * k) = nm b (at_ + 4 + (3 * k + 1) * 2) 2 := by
      rw [ru2_in (by omega) (by omega), show at_ + 6 + 6 * (k : Int) = at_ + 4 + (3 * k + 1) * 2 by omega]
    have e3 : ru2 b (at_ + 8 + 6 * k) = nm b (at_ + 4 + (3 * k + 2) * 2) 2 := by
      rw [ru2_in (by omega) (by omega), show at_ + 8 + 6 * (k : Int) = at_ + 4 + (3 * k + 2) * 2 by omega]
    have t1 := nm2 hb (a := at_ + 4 + (3 * (k : Int)) * 2) (by omega) (by omega)
    have t2 := nm2 hb (a := at_ + 4 + (3 * (k : Int) + 1) * 2) (by omega) (by omega)
    have t3 := nm2 hb (a := at_ + 4 + (3 * (k : Int) + 2) * 2) (by omega) (by omega)
    rw [e1, e2, e3]
    generalize nm b (at_ + 4 + (3 * (k : Int)) * 2) 2 = x at *
    generalize nm b (at_ + 4 + (3 * (k : Int) + 1) * 2) 2 = y at *
    generalize nm b (at_ + 4 + (3 * (k : Int) + 2) * 2) 2 = z at *
    by_cases hxy : x ≤ last ∨ y < x
    · rw [if_pos hxy, if_pos (by omega)]
      trivial
    · rw [if_neg hxy]
      by_cases hz : z = nx
      · subst hz
        rw [if_neg (by rintro (h1 | h1 | h1 | ⟨-, h1⟩) <;> omega)]
        obtain ⟨r1, r2⟩ := rel_fill (cl := false) (z := z) (nx := z) (v := 1) h (lo := x) (hi := y) (fun s hs => by have := hbl s hs; omega) (by omega) (by omega) (by omega) t3.1 hn rfl
        have ih := par_R hb hc q (k + 1) y (z + (y - x + 1)) (fill false z (y - x + 1).toNat x z T) (joinS l ⟨x, y⟩) (by omega) (by omega) (by omega) (by rw [joinS_toL]; exact r1) (by rw [joinS_toL]; exact r2)
        cases hd : triD b at_ q (k + 1) y with
        | none => rw [hd] at ih; exact ih
        | some t =>
          rw [hd] at ih
          simp only [Option.map_some, Option.bind_some] at ih ⊢
          rw [ranL, if_neg (by simp)]
          exact ih
      · rw [if_pos (.inr (.inr (.inr ⟨rfl, hz⟩)))]
        cases hd : triD b at_ q (k + 1) y with
        | none => trivial
        | some t =>
          simp only [Option.map_some, Option.bind_some]
          rw [ranL, if_pos (by simpa using hz)]
          trivial

theorem par_K (hb : Bytes b) {at_ : Int} {N : Nat} (hc : 0 ≤ at_ + 2 ∧ at_ + 4 + 3 * N * 2 ≤ b.length) : ∀ (q k : Nat) (last nx : Int) (T : List Int) (l : List Cls), k + q = N → -1 ≤ last → 0 ≤ nx → Good true T l → Below l (last + 1) →
    Both (Good true) (tabR b at_ true q k last nx T) ((triD b at_ q k last).map fun t => t.foldl clsdS l)
  | 0, k, last, nx, T, l, _, _, _, h, _ => h
  | q + 1, k, last, nx, T, l, hk, h0, hn, h, hbl => by
    rw [tabR, triD]
    have e1 : ru2 b (at_ + 4 + 6 * k) = nm b (at_ + 4 + (3 * k) * 2) 2 := by
      rw [ru2_in (by omega) (by omega), show at_ + 4 + 6 * (k : Int) = at_ + 4 + (3 * k) * 2 by omega]
    have e2 : ru2 b (at_ + 6 + 6 * k) = nm b (at_ + 4 + (3 * k + 1) * 2) 2 := by
      rw [ru2_in (by omega) (by omega), show at_ + 6 + 6 * (k : Int) = at_ + 4 + (3 * k + 1) * 2 by omega]
    have e3 : ru2 b (at_ + 8 + 6 * k) = nm b (at_ + 4 + (3 * k + 2) * 2) 2 := by
      rw [ru2_in (by omega) (by omega), show at_ + 8 + 6 * (k : Int) = at_ + 4 + (3 * k + 2) * 2 by omega]
    have t1 := nm2 hb (a := at_ + 4 + (3 * (k : Int)) * 2) (by omega) (by omega)
    have t2 := nm2 hb (a := at_ + 4 + (3 * (k : Int) + 1) * 2) (by omega) (by omega)
    have t3 := nm2 hb (a := at_ + 4 + (3 * (k : Int) + 2) * 2) (by omega) (by omega)
    rw [e1, e2, e3]
    generalize nm b (at_ + 4 + (3 * (k : Int)) * 2) 2 = x at *
    generalize nm b (at_ + 4 + (3 * (k : Int) + 1) * 2) 2 = y at *
    generalize nm b (at_ + 4 + (3 * (k : Int) + 2) * 2) 2 = z at *
    by_cases hxy : x ≤ last ∨ y < x
    · rw [if_pos hxy, if_pos (by omega)]
      trivial
    · rw [if_neg hxy, if_neg (by rintro (h1 | h1 | h1 | ⟨h1, -⟩) <;> first | omega | cases h1)]
      obtain ⟨r1, r2⟩ := rel_fill (cl := true) (z := z) (nx := nx) (v := z) h (lo := x) (hi := y) (fun s hs => by have := hbl s hs; omega) (by omega) (by omega) (by omega) t3.1 hn rfl
      have ih := par_K hb hc q (k + 1) y (nx + (y - x + 1)) (fill true z (y - x + 1).toNat x nx T) (clsdS l ⟨x, y, z⟩) (by omega) (by omega) (by omega) r1 r2
      cases hd : triD b at_ q (k + 1) y with
      | none => rw [hd] at ih; exact ih
      | some t => rw [hd] at ih; exact ih

theorem tabR_out {at_ : Int} {cl : Bool} {N : Nat} (hc : ¬ at_ + 4 + 3 * N * 2 ≤ b.length) : ∀ (q k : Nat) (last nx : Int) (T : List Int), k + q = N → 0 < q → tabR b at_ cl q k last nx T = none
  | 0, k, last, nx, T, _, h => by omega
  | q + 1, k, last, nx, T, hk, _ => by
    rw [tabR]
    split
    · rfl
    · rename_i hg
      by_cases hq : q = 0
      · have := ru2_out (b := b) (a := at_ + 8 + 6 * k) (by omega)
        omega
      · exact tabR_out hc q (k + 1) _ _ _ (by omega) (by omega)
end
end Go.Proofs.Ytohmjbgcmccplaa
