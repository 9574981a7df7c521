/- From what a row says of the arguments to what the abstract layer wants of them: every reading of numbers, truth values, slices and structs of such is a list of pure values. No condition. -/
import Derived.Test.YtohmjbgcmccplaaAa3
import Derived.ProofKit
namespace Go.Ab
open Go

/-! ### Everything that lies there already, as memory that is never written -/

def wI (w : World) : Env := ⟨fun g => w.heap[g]?, fun _ => .unborn⟩

theorem wok_w (w : World) : WOK (wI w) (fun _ => none) w := ⟨fun _ _ h => h, fun _ => trivial, fun _ _ _ _ h => by cases h⟩

theorem icell_w (w : World) (a : Addr) : icell (wI w).I a = w.cell? a := by
  unfold icell World.cell? wI
  rfl

/-! ### Shapes -/

inductive Sh where
  | int (k : IntKind)
  | bool
  | sl (es : List Sh)

inductive Fit : Sh → PV → Prop
  | int (k : IntKind) (n : Int) (h : (Lit.int k n).wf = true) : Fit (.int k) (.sc (.int k n))
  | bool (b : Bool) : Fit .bool (.sc (.bool b))
  | sl (es : List Sh) (rows : List (List PV)) (hl : rows.length ≤ maxLen) (h1 : ∀ r, r ∈ rows → r.length = es.length) (h2 : ∀ r, r ∈ rows → ∀ (i : Nat) (s : Sh) (x : PV), es[i]? = some s → r[i]? = some x → Fit s x) : Fit (.sl es) (.fro rows)

def FitL (es : List Sh) (r : List PV) : Prop := r.length = es.length ∧ ∀ (i : Nat) (s : Sh) (x : PV), es[i]? = some s → r[i]? = some x → Fit s x

def fieldsSh (P : Program) (f : TypeId → Option (List Sh)) : List Field → Nat → Option (List Sh)
  | [], _ => some []
  | fd :: l, off => match f fd.type with
    | some es => if fd.offset = off ∧ P.cellsOf fd.type = es.length then (fieldsSh P f l (off + es.length)).map (es ++ ·) else none
    | none => none

def shapeOf (P : Program) : Nat → TypeId → Option (List Sh)
  | 0, _ => none
  | n + 1, t => match P.underlying t with
    | some (.int k) => some [.int k]
    | some .bool => some [.bool]
    | some (.slice e) => match shapeOf P n e with
      | some es => if P.cellsOf e = es.length ∧ 0 < es.length then some [.sl es] else none
      | none => none
    | some (.struct fs) => match fieldsSh P (shapeOf P n) fs.toList 0 with
      | some es => if P.cellsOf t = es.length then some es else none
      | none => none
    | _ => none

/-- The cells from a place on are these pure values. -/
def CellsAre (w : World) (cs : List Value) (off : Nat) (r : List PV) : Prop :=
  ∀ (i : Nat) (x : PV), r[i]? = some x → ∃ v, cs[off + i]? = some v ∧ RepI (wI w).I x v ∧ v.oneCell' = true

theorem pick_rows {Q : Nat → List PV → Prop} : ∀ (n : Nat), (∀ i, i < n → ∃ r, Q i r) → ∃ rows : List (List PV), rows.length = n ∧ ∀ (i : Nat) (r : List PV), rows[i]? = some r → Q i r
  | 0, _ => ⟨[], rfl, fun i r h => by simp at h⟩
  | n + 1, h => by
    obtain ⟨rows, hl, hr⟩ := pick_rows n (fun i hi => h i (by omega))
    obtain ⟨r, hq⟩ := h n (by omega)
    refine ⟨rows ++ [r], by simp [hl], fun i r' e => ?_⟩
    by_cases hi : i < n
    · exact hr i r' (by rwa [List.getElem?_append_left (by omega)] at e)
    · rw [List.getElem?_append_right (by omega)] at e
      have : i = n := by
        have := (List.getElem?_eq_some_iff.1 e).1
        simp at this; omega
      subst this
      simp [hl] at e
      rw [← e]; exact hq

section
variable {H : Type} {enc : TypeId × Value → H} {P : Program} {w : World} {base : Nat} {spare : Nat → Bool} {held : Bool}

theorem cells_get {a : Addr} {n : Nat} {cs : List Value} (h : w.cells? base a n = some cs) : cs.length = n ∧ ∀ i, i < n → w.cell? (a.add i) = cs[i]? := by
  unfold World.cells? at h
  split at h
  · exact ⟨by simpa using mapM_some_length h, fun i hi => mapM_some_get h i i (by simp [hi])⟩
  · cases h

theorem cell_add {a : Addr} {i : Nat} {v : Value} (h : w.cell? (a.add i) = some v) : w.cell? ⟨a.block, a.off + i, none⟩ = some v ∧ (i = 0 → a = ⟨a.block, a.off, none⟩) := by
  unfold Addr.add at h
  by_cases e : i = 0
  · subst e
    rw [if_pos rfl] at h
    obtain ⟨b, o, s⟩ := a
    cases s with
    | none => exact ⟨h, fun _ => rfl⟩
    | some s =>
      unfold World.cell? at h
      simp only [Option.isSome_some, if_true] at h
      split at h <;> cases h
  · rw [if_neg e] at h
    exact ⟨h, fun h0 => absurd h0 e⟩

theorem fields_read {n : Nat} {cs : List Value}
    (ih : ∀ (t : TypeId) (es : List Sh) (fuel : Nat) (cs : List Value) (x : DataW H × List MemPlace), shapeOf P n t = some es → DataW.trod enc P w base spare held fuel t cs = some x → cs.length = P.cellsOf t →
      ∃ r, FitL es r ∧ CellsAre w cs 0 r) (fuel : Nat) :
    ∀ (l : List Field) (off : Nat) (es : List Sh), fieldsSh P (shapeOf P n) l off = some es → off + es.length ≤ cs.length →
      (∀ fd, fd ∈ l → ∃ x, DataW.trod enc P w base spare held fuel fd.type ((cs.drop fd.offset).take (P.cellsOf fd.type)) = some x) → ∃ r, FitL es r ∧ CellsAre w cs off r
  | [], off, es, h, _, _ => by
    simp only [fieldsSh, Option.some.injEq] at h
    subst h
    exact ⟨[], ⟨rfl, fun i s x h => by simp at h⟩, fun i x h => by simp at h⟩
  | fd :: l, off, es, h, hle, hx => by
    unfold fieldsSh at h
    split at h
    · rename_i e1 he
      split at h
      · rename_i hc
        obtain ⟨ho, hcell⟩ := hc
        rw [Option.map_eq_some_iff] at h
        obtain ⟨e2, h2, rfl⟩ := h
        simp only [List.length_append] at hle
        obtain ⟨x, ht⟩ := hx fd (by simp)
        obtain ⟨r1, hf1, hr1⟩ := ih _ _ _ _ _ he ht (by rw [List.length_take, List.length_drop]; omega)
        obtain ⟨r2, hf2, hr2⟩ := fields_read ih fuel l (off + e1.length) e2 h2 (by omega) (fun f hf => hx f (by simp [hf]))
        refine ⟨r1 ++ r2, ⟨by simp [hf1.1, hf2.1], fun i s x h1 h3 => ?_⟩, fun i x h3 => ?_⟩
        · by_cases hi : i < e1.length
          · rw [List.getElem?_append_left hi] at h1
            rw [List.getElem?_append_left (by rw [hf1.1]; exact hi)] at h3
            exact hf1.2 i s x h1 h3
          · rw [List.getElem?_append_right (by omega)] at h1
            rw [List.getElem?_append_right (by rw [hf1.1]; omega), hf1.1] at h3
            exact hf2.2 _ s x h1 h3
        · by_cases hi : i < e1.length
          · rw [List.getElem?_append_left (by rw [hf1.1]; exact hi)] at h3
            obtain ⟨v, hv, hrest⟩ := hr1 i x h3
            refine ⟨v, ?_, hrest⟩
            rw [ho] at hv
            rw [Nat.zero_add, List.getElem?_take, if_pos (by omega), List.getElem?_drop] at hv
            exact hv
          · rw [List.getElem?_append_right (by rw [hf1.1]; omega), hf1.1] at h3
            obtain ⟨v, hv, hrest⟩ := hr2 _ x h3
            exact ⟨v, by rw [← hv]; congr 1; omega, hrest⟩
      · cases h
    · cases h

theorem read_shape : ∀ (n : Nat) (t : TypeId) (es : List Sh) (fuel : Nat) (cs : List Value) (x : DataW H × List MemPlace), shapeOf P n t = some es → DataW.trod enc P w base spare held fuel t cs = some x → cs.length = P.cellsOf t →
    ∃ r, FitL es r ∧ CellsAre w cs 0 r
  | 0, _, _, _, _, _, h, _, _ => by cases h
  | n + 1, t, es, fuel, cs, x, h, hx, hlen => by
    unfold shapeOf at h
    split at h
    · rename_i k hu
      simp only [Option.some.injEq] at h
      subst h
      obtain ⟨z, rfl, -, hw⟩ := DataW.trod_int hu hx
      refine ⟨[.sc (.int k z)], ⟨rfl, fun i s x h1 h2 => ?_⟩, fun i x h2 => ?_⟩
      · match i, h1, h2 with
        | 0, h1, h2 =>
          simp at h1 h2
          subst h1; subst h2
          exact .int k z hw
      · match i, h2 with
        | 0, h2 =>
          simp at h2; subst h2
          exact ⟨_, rfl, .sc _, rfl⟩
    · rename_i hu
      simp only [Option.some.injEq] at h
      subst h
      obtain ⟨z, rfl, -⟩ := DataW.trod_bool hu hx
      refine ⟨[.sc (.bool z)], ⟨rfl, fun i s x h1 h2 => ?_⟩, fun i x h2 => ?_⟩
      · match i, h1, h2 with
        | 0, h1, h2 =>
          simp at h1 h2
          subst h1; subst h2
          exact .bool z
      · match i, h2 with
        | 0, h2 =>
          simp at h2; subst h2
          exact ⟨_, rfl, .sc _, rfl⟩
    · rename_i e hu
      split at h
      · rename_i e1 he
        split at h
        · rename_i hc
          obtain ⟨hcell, hpos⟩ := hc
          simp only [Option.some.injEq] at h
          subst h
          have key : ∃ (rows : List (List PV)) (v : Value), cs = [v] ∧ v.oneCell' = true ∧ Fit (.sl e1) (.fro rows) ∧ RepI (wI w).I (.fro rows) v := by
            rcases DataW.trod_slice hu hx with ⟨rfl, -⟩ | ⟨a, len, cap, elems, rest, m, -, rfl, -, hb, hlc, hcm, hel, hget, -, -⟩
            · refine ⟨[], _, rfl, rfl, .sl _ _ (by simp) (fun r h => by cases h) (fun r h => by cases h), ?_⟩
              exact .fro 0 [] none 0 0 0 (fun _ _ => .nilIface) (fun h => by simp at h) (by simp) (fun r h => by cases h) (fun i j h => by simp at h) (fun i j h => by simp at h) (fun i j r x h => by simp at h)
            · obtain ⟨rows, hrl, hrq⟩ := pick_rows (Q := fun i r => ∃ cs', w.cells? base (a.add (i * P.cellsOf e)) (P.cellsOf e) = some cs' ∧ FitL e1 r ∧ CellsAre w cs' 0 r) len (fun i hi => by
                have h1 := hget i hi
                rw [List.getElem?_eq_getElem (by omega), Option.bind_eq_some_iff] at h1
                obtain ⟨cs', h2, h3⟩ := h1
                obtain ⟨r, h4, h5⟩ := read_shape n e e1 _ _ _ he h3 (cells_get h2).1
                exact ⟨r, cs', h2, h4, h5⟩)
              have hall : ∀ i j, i < rows.length → j < e1.length → ∃ r x v, rows[i]? = some r ∧ r[j]? = some x ∧ w.cell? ⟨a.block, a.off + i * e1.length + j, none⟩ = some v ∧ RepI (wI w).I x v ∧ v.oneCell' = true ∧ (i = 0 → j = 0 → a = ⟨a.block, a.off, none⟩) := by
                intro i j hi hj
                obtain ⟨cs', h2, h4, h5⟩ := hrq i rows[i] (List.getElem?_eq_getElem hi)
                have hjl : j < rows[i].length := by rw [h4.1]; exact hj
                obtain ⟨v, hv, hr, h1⟩ := h5 j rows[i][j] (List.getElem?_eq_getElem hjl)
                have hg := (cells_get h2).2 j (by omega)
                rw [Nat.zero_add] at hv
                rw [hv] at hg
                obtain ⟨g1, g2⟩ := cell_add hg
                refine ⟨_, _, v, List.getElem?_eq_getElem hi, List.getElem?_eq_getElem hjl, ?_, hr, h1, fun hi0 hj0 => ?_⟩
                · have hb2 : (a.add (i * P.cellsOf e)).block = a.block := by unfold Addr.add; split <;> rfl
                  have ho2 : (a.add (i * P.cellsOf e)).off = a.off + i * P.cellsOf e := by
                    unfold Addr.add; split
                    · rename_i h0; rw [h0]; rfl
                    · rfl
                  rw [hb2, ho2, hcell] at g1
                  exact g1
                · subst hi0; subst hj0
                  have := g2 rfl
                  simpa [Addr.add] using this
              refine ⟨rows, _, rfl, rfl, .sl _ _ (by omega) (fun r hr => ?_) (fun r hr i s x hs hx2 => ?_), ?_⟩
              · obtain ⟨i, hi⟩ := List.mem_iff_getElem?.1 hr
                obtain ⟨_, -, h4, -⟩ := hrq i r hi
                exact h4.1
              · obtain ⟨j, hj⟩ := List.mem_iff_getElem?.1 hr
                obtain ⟨_, -, h4, -⟩ := hrq j r hj
                exact h4.2 i s x hs hx2
              · subst hrl
                refine .fro e1.length rows (some a) a.block a.off cap (fun i j => (w.cell? ⟨a.block, a.off + i * e1.length + j, none⟩).getD .nilIface) (fun h => ?_) hlc (fun r hr => ?_) (fun i j hi hj => ?_) (fun i j hi hj => ?_) (fun i j r x h1 h2 => ?_)
                · obtain ⟨_, _, _, _, _, _, _, _, h6⟩ := hall 0 0 h hpos
                  exact congrArg some (h6 rfl rfl)
                · obtain ⟨i, hi⟩ := List.mem_iff_getElem?.1 hr
                  obtain ⟨_, -, h4, -⟩ := hrq i r hi
                  exact h4.1
                · obtain ⟨_, _, v, _, _, h3, _⟩ := hall i j hi hj
                  rw [icell_w, h3]; rfl
                · obtain ⟨_, _, v, _, _, h3, _, h5, _⟩ := hall i j hi hj
                  rw [h3]; exact h5
                · have hi := (List.getElem?_eq_some_iff.1 h1).1
                  obtain ⟨_, -, h4, -⟩ := hrq i r h1
                  have hj : j < e1.length := by rw [← h4.1]; exact (List.getElem?_eq_some_iff.1 h2).1
                  obtain ⟨r', x', v, h1', h2', h3, h5, _⟩ := hall i j hi hj
                  rw [h1] at h1'
                  injection h1' with h1'
                  subst h1'
                  rw [h2] at h2'
                  injection h2' with h2'
                  subst h2'
                  rw [h3]; exact h5
          obtain ⟨rows, v, rfl, h1, h2, h3⟩ := key
          refine ⟨[.fro rows], ⟨rfl, fun i s x h4 h5 => ?_⟩, fun i x h5 => ?_⟩
          · match i, h4, h5 with
            | 0, h4, h5 =>
              simp at h4 h5
              subst h4; subst h5
              exact h2
          · match i, h5 with
            | 0, h5 =>
              simp at h5; subst h5
              exact ⟨v, rfl, h3, h1⟩
        · cases h
      · cases h
    · rename_i fs hu
      split at h
      · rename_i e1 he
        split at h
        · rename_i hc
          simp only [Option.some.injEq] at h
          subst h
          obtain ⟨xs, m, -, -, hl, hxl, hf⟩ := DataW.trod_struct hu hx
          exact fields_read (read_shape n) m fs.toList 0 _ he (by omega) (fun fd hfd => by
            obtain ⟨i, hi⟩ := List.mem_iff_getElem?.1 hfd
            have hi2 : fs[i]? = some fd := by simpa using hi
            have hlt : i < xs.length := by rw [hxl]; exact (Array.getElem?_eq_some_iff.1 hi2).1
            exact ⟨xs[i], by rw [hf i fd hi2]; exact List.getElem?_eq_getElem hlt⟩)
        · cases h
      · cases h
    · cases h

end

end Go.Ab
