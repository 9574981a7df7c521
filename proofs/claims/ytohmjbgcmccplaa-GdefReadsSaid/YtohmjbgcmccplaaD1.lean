/- What readings of this program's types are, as lists of plain numbers. No condition. -/
import Derived.Test.YtohmjbgcmccplaaB2
import Derived.Test.YtohmjbgcmccplaaC16
namespace Go.Proofs.Ytohmjbgcmccplaa
open Go Go.Ab

theorem rows_map {α : Type} {f : α → List PV} {Q : α → Prop} : ∀ (rows : List (List PV)), (∀ r, r ∈ rows → ∃ x, r = f x ∧ Q x) → ∃ l : List α, rows = l.map f ∧ ∀ x, x ∈ l → Q x
  | [], _ => ⟨[], rfl, fun x h => by cases h⟩
  | r :: rows, h => by
    obtain ⟨x, rfl, hx⟩ := h r (by simp)
    obtain ⟨l, rfl, hl⟩ := rows_map rows (fun r hr => h r (by simp [hr]))
    exact ⟨x :: l, rfl, fun y hy => by
      rcases List.mem_cons.1 hy with rfl | hy
      · exact hx
      · exact hl y hy⟩

theorem fit_int {k : IntKind} {x : PV} (h : Fit (.int k) x) : ∃ n, x = .sc (.int k n) ∧ (Lit.int k n).wf = true := by
  cases h with | int _ n hn => exact ⟨n, rfl, hn⟩
theorem wf64 {n : Int} (h : (Lit.int .i64 n).wf = true) : I64 n := by
  simp only [Lit.wf, Bool.and_eq_true, decide_eq_true_eq] at h
  have h1 : IntKind.i64.min = -9223372036854775808 := by decide
  have h2 : IntKind.i64.max = 9223372036854775807 := by decide
  unfold I64; omega
theorem wf32 {n : Int} (h : (Lit.int .i32 n).wf = true) : -2147483648 ≤ n ∧ n ≤ 2147483647 := by
  simp only [Lit.wf, Bool.and_eq_true, decide_eq_true_eq] at h
  have h1 : IntKind.i32.min = -2147483648 := by decide
  have h2 : IntKind.i32.max = 2147483647 := by decide
  omega
theorem wf8 {n : Int} (h : (Lit.int .u8 n).wf = true) : 0 ≤ n ∧ n < 256 := by
  simp only [Lit.wf, Bool.and_eq_true, decide_eq_true_eq] at h
  have h1 : IntKind.u8.min = 0 := by decide
  have h2 : IntKind.u8.max = 255 := by decide
  omega
theorem fit_64 {x : PV} (h : Fit (.int .i64) x) : ∃ n, x = .sc (.int .i64 n) ∧ I64 n := by
  obtain ⟨n, h1, h2⟩ := fit_int h
  exact ⟨n, h1, wf64 h2⟩

theorem fit_classes {rows : List (List PV)} (h : Fit (.sl [.int .i64, .int .i64, .int .i64]) (.fro rows)) : ∃ l, rows = classR l ∧ l.length ≤ maxLen ∧ ∀ g, g ∈ l → I64 g.lo ∧ I64 g.hi ∧ I64 g.cl := by
  cases h with
  | sl _ _ hl h1 h2 =>
    obtain ⟨l, e, hq⟩ := rows_map (f := crow) (Q := fun g => I64 g.lo ∧ I64 g.hi ∧ I64 g.cl) rows (fun r hr => by
      have h3 := h1 r hr
      have h4 := h2 r hr
      match r, h3, h4 with
      | [a, b, c], _, h4 =>
        obtain ⟨x, rfl, hx⟩ := fit_64 (h4 0 _ a rfl rfl)
        obtain ⟨y, rfl, hy⟩ := fit_64 (h4 1 _ b rfl rfl)
        obtain ⟨z, rfl, hz⟩ := fit_64 (h4 2 _ c rfl rfl)
        exact ⟨⟨x, y, z⟩, rfl, hx, hy, hz⟩)
    subst e
    exact ⟨l, rfl, by simpa using hl, hq⟩

theorem fit_spans {rows : List (List PV)} (h : Fit (.sl [.int .i64, .int .i64]) (.fro rows)) : ∃ l, rows = spanR l ∧ l.length ≤ maxLen ∧ ∀ g, g ∈ l → SpnIn g := by
  cases h with
  | sl _ _ hl h1 h2 =>
    obtain ⟨l, e, hq⟩ := rows_map (f := srow) (Q := SpnIn) rows (fun r hr => by
      have h3 := h1 r hr
      have h4 := h2 r hr
      match r, h3, h4 with
      | [a, b], _, h4 =>
        obtain ⟨x, rfl, hx⟩ := fit_64 (h4 0 _ a rfl rfl)
        obtain ⟨y, rfl, hy⟩ := fit_64 (h4 1 _ b rfl rfl)
        exact ⟨⟨x, y⟩, rfl, hx, hy⟩)
    subst e
    exact ⟨l, rfl, by simpa using hl, hq⟩

theorem fit_sets {rows : List (List PV)} (h : Fit (.sl [.sl [.int .i64, .int .i64]]) (.fro rows)) : ∃ l, rows = setR l ∧ l.length ≤ maxLen ∧ ∀ s, s ∈ l → s.length ≤ maxLen ∧ ∀ g, g ∈ s → SpnIn g := by
  cases h with
  | sl _ _ hl h1 h2 =>
    obtain ⟨l, e, hq⟩ := rows_map (f := fun s => [.fro (spanR s)]) (Q := fun s => s.length ≤ maxLen ∧ ∀ g, g ∈ s → SpnIn g) rows (fun r hr => by
      have h3 := h1 r hr
      have h4 := h2 r hr
      match r, h3, h4 with
      | [a], _, h4 =>
        have h5 := h4 0 _ a rfl rfl
        cases h5 with
        | sl _ rs q1 q2 q3 =>
          obtain ⟨l, rfl, hl, hq⟩ := fit_spans (.sl _ rs q1 q2 q3)
          exact ⟨l, rfl, hl, hq⟩)
    subst e
    exact ⟨l, rfl, by simpa using hl, hq⟩

theorem fit_groups {rows : List (List PV)} (h : Fit (.sl [.int .i32, .int .i32, .int .i64]) (.fro rows)) : ∃ l, rows = groupR l ∧ l.length ≤ maxLen ∧
    ∀ g, g ∈ l → (-2147483648 ≤ g.lo ∧ g.lo ≤ 2147483647) ∧ (-2147483648 ≤ g.hi ∧ g.hi ≤ 2147483647) ∧ I64 g.gl := by
  cases h with
  | sl _ _ hl h1 h2 =>
    obtain ⟨l, e, hq⟩ := rows_map (f := grow) (Q := fun g => (-2147483648 ≤ g.lo ∧ g.lo ≤ 2147483647) ∧ (-2147483648 ≤ g.hi ∧ g.hi ≤ 2147483647) ∧ I64 g.gl) rows (fun r hr => by
      have h3 := h1 r hr
      have h4 := h2 r hr
      match r, h3, h4 with
      | [a, b, c], _, h4 =>
        obtain ⟨x, rfl, hx⟩ := fit_int (h4 0 _ a rfl rfl)
        obtain ⟨y, rfl, hy⟩ := fit_int (h4 1 _ b rfl rfl)
        obtain ⟨z, rfl, hz⟩ := fit_64 (h4 2 _ c rfl rfl)
        exact ⟨⟨x, y, z⟩, rfl, wf32 hx, wf32 hy, hz⟩)
    subst e
    exact ⟨l, rfl, by simpa using hl, hq⟩

theorem fit_bytes {rows : List (List PV)} (h : Fit (.sl [.int .u8]) (.fro rows)) : ∃ l, rows = byteR l ∧ l.length ≤ maxLen ∧ Bytes l := by
  cases h with
  | sl _ _ hl h1 h2 =>
    obtain ⟨l, e, hq⟩ := rows_map (f := fun x => [.sc (.int .u8 x)]) (Q := fun x => 0 ≤ x ∧ x < 256) rows (fun r hr => by
      have h3 := h1 r hr
      have h4 := h2 r hr
      match r, h3, h4 with
      | [a], _, h4 =>
        obtain ⟨x, rfl, hx⟩ := fit_int (h4 0 _ a rfl rfl)
        exact ⟨x, rfl, wf8 hx⟩)
    subst e
    exact ⟨l, rfl, by simpa using hl, hq⟩

theorem Try.own : ownKnob Try.prog.godebug = none := by kernel_rfl
theorem Try.laidOut : laidOutB Try.prog = true := by kernel_rfl
theorem shape22 : shapeOf Try.prog 3 22 = some [.sl [.int .u8]] := by kernel_rfl
theorem shape32 : shapeOf Try.prog 3 32 = some [.sl [.int .i32, .int .i32, .int .i64]] := by kernel_rfl
theorem shape27 : shapeOf Try.prog 5 27 = some [.sl [.int .i64, .int .i64, .int .i64], .sl [.int .i64, .int .i64, .int .i64], .sl [.sl [.int .i64, .int .i64]]] := by kernel_rfl
end Go.Proofs.Ytohmjbgcmccplaa
