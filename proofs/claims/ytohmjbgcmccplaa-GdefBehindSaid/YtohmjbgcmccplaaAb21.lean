/- Chunks under other numbers, told by a list. No condition. -/
import Derived.Test.YtohmjbgcmccplaaAb20
set_option linter.unusedVariables false
set_option linter.unusedSimpArgs false
namespace Go.Ab
open Go

/-- Chunk i was r before; any other bears its number on. -/
def ofL : List (Nat × Nat) → Nat → Nat
  | [], i => i
  | (k, r) :: l, i => if i = k then r else ofL l i

def apartL : List Nat → Bool
  | [] => true
  | x :: l => !l.contains x && apartL l

def checkR (m n : Nat) (l : List (Nat × Nat)) (ks : List Nat) : Bool := decide (m ≤ n) && l.all (fun p => decide (m ≤ p.1)) && apartL (ks.map (ofL l))

theorem ofL_low {m : Nat} : ∀ {l : List (Nat × Nat)}, l.all (fun p => decide (m ≤ p.1)) = true → ∀ i, i < m → ofL l i = i
  | [], _, i, _ => rfl
  | (k, r) :: l, h, i, hi => by
    simp only [List.all_cons, Bool.and_eq_true, decide_eq_true_eq] at h
    rw [ofL, if_neg (by omega)]
    exact ofL_low h.2 i hi

theorem apartL_map {ρ : Nat → Nat} : ∀ {ks : List Nat}, apartL (ks.map ρ) = true → ∀ i j, i ∈ ks → j ∈ ks → i ≠ j → ρ i ≠ ρ j
  | [], _, i, j, hi, _, _ => by simp at hi
  | x :: l, h, i, j, hi, hj, hij => by
    simp only [List.map_cons, apartL, Bool.and_eq_true, Bool.not_eq_true', List.contains_eq_mem, decide_eq_false_iff_not, List.mem_map, not_exists, not_and] at h
    rcases List.mem_cons.1 hi with e1 | h1
    · rcases List.mem_cons.1 hj with e2 | h2
      · exact absurd (e1.trans e2.symm) hij
      · rw [e1]; exact fun e => h.1 j h2 e.symm
    · rcases List.mem_cons.1 hj with e2 | h2
      · rw [e2]; exact h.1 i h1
      · exact apartL_map h.2 i j h1 h2 hij

theorem WeakR.ofL {m n : Nat} {l : List (Nat × Nat)} {ks : List Nat} (hk : checkR m n l ks = true := by rfl) : WeakR m (Ab.ofL l) n ks := by
  simp only [checkR, Bool.and_eq_true, decide_eq_true_eq] at hk
  exact ⟨ofL_low hk.1.2, apartL_map hk.2, hk.1.1⟩

attribute [push_cast] ofL

end Go.Ab
