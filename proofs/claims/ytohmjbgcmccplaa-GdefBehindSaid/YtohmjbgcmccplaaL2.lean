/- Bytes behind turn nothing of tables that are there. No condition. -/
import Derived.Test.YtohmjbgcmccplaaC25
namespace Go.Proofs.Ytohmjbgcmccplaa
open Go Go.Ab
set_option linter.unusedVariables false
variable {b m : List Int}

theorem take_mono {a n : Nat} (h : a + n ≤ b.length) : (((b ++ m).drop a).take n) = ((b.drop a).take n) := by
  rw [List.drop_append_of_le_length (by omega), List.take_append_of_le_length (by rw [List.length_drop]; omega)]

theorem nm_mono {a n : Int} (h0 : 0 ≤ a) (h1 : 0 ≤ n) (h : a + n ≤ b.length) : nm (b ++ m) a n = nm b a n := by
  unfold nm
  rw [take_mono (by omega)]

theorem len_mono : ((b ++ m).length : Int) = b.length + m.length := by simp

theorem rd_mono {a n x : Int} (h : rd b a n = some x) : rd (b ++ m) a n = some x := by
  have hw := rd_within h
  have hl := len_mono (b := b) (m := m)
  unfold rd at h ⊢
  rw [if_pos (by omega)] at h
  rw [if_pos (by omega), take_mono (by omega)]
  exact h

theorem rd_isSome {a n : Int} (h : (rd b a n).isSome = true) : rd (b ++ m) a n = rd b a n := by
  cases e : rd b a n with
  | none => rw [e] at h; cases h
  | some x => exact rd_mono e

theorem rd_getD {a n k : Int} (hk : k ≠ 0) (h : (rd b a n).getD 0 = k) : rd b a n = some k := by
  cases e : rd b a n with
  | none => rw [e] at h; simp at h; omega
  | some x => rw [e] at h; simp at h; rw [h]

theorem segGl_mono {from_ delta offset place c g : Int} (h : segGl b from_ delta offset place c = some g) : segGl (b ++ m) from_ delta offset place c = some g := by
  unfold segGl at h ⊢
  split at h
  · rename_i h0
    rw [if_pos h0]; exact h
  · rename_i h0
    rw [if_neg h0]
    split at h
    · rename_i h1
      rw [rd_isSome h1, if_pos h1]
      exact h
    · cases h

theorem segS_mono {n from_ delta offset place : Int} : ∀ {q : Nat} {c : Int} {l l' : List Grp}, segS b n from_ delta offset place q c l = some l' → segS (b ++ m) n from_ delta offset place q c l = some l'
  | 0, c, l, l', h => h
  | q + 1, c, l, l', h => by
    rw [segS] at h ⊢
    split at h
    · cases h
    · rename_i g hg
      rw [segGl_mono hg]
      exact segS_mono h

theorem segsS_mono {n at_ : Int} {N : Nat} (hc : 0 ≤ at_ + 6 ∧ at_ + 16 + 2 * N + 3 * N * 2 ≤ b.length) :
    ∀ {q k : Nat} {last : Int} {l l' : List Grp}, k + q = N → segsS b n at_ N q k last l = some l' → segsS (b ++ m) n at_ N q k last l = some l'
  | 0, k, last, l, l', _, h => h
  | q + 1, k, last, l, l', hk, h => by
    rw [segsS] at h ⊢
    have e1 : sFrom (b ++ m) at_ N k = sFrom b at_ N k := by unfold sFrom; exact nm_mono (by omega) (by omega) (by omega)
    have e2 : sTo (b ++ m) at_ k = sTo b at_ k := by unfold sTo; exact nm_mono (by omega) (by omega) (by omega)
    have e3 : sDelta (b ++ m) at_ N k = sDelta b at_ N k := by unfold sDelta; exact nm_mono (by omega) (by omega) (by omega)
    have e4 : sOff (b ++ m) at_ N k = sOff b at_ N k := by unfold sOff; exact nm_mono (by omega) (by omega) (by omega)
    rw [e1, e2, e3, e4]
    split at h
    · cases h
    · rename_i hft
      rw [if_neg hft]
      split at h
      · cases h
      · rename_i l1 hl1
        rw [segS_mono hl1]
        exact segsS_mono hc (k := k + 1) (by omega) h

theorem segmentsS_mono (hb : Bytes b) {n at_ : Int} {l : List Grp} (h : segmentsS b n at_ = some l) : segmentsS (b ++ m) n at_ = some l := by
  have hl := len_mono (b := b) (m := m)
  unfold segmentsS at h ⊢
  split at h
  · cases h
  · rename_i v hv
    have h2 := rd2 hb (at_ + 6)
    rw [hv] at h2
    simp only [Option.getD_some] at h2
    rw [rd_mono hv]
    simp only []
    split at h
    · cases h
    · rename_i h0
      rw [if_neg h0]
      split at h
      · rename_i hle
        have hw := rd_within hv
        rw [if_pos (by omega)]
        obtain ⟨N, hN⟩ : ∃ N : Nat, v / 2 = N := ⟨(v / 2).toNat, by omega⟩
        rw [hN, Int.toNat_natCast] at h ⊢
        rw [hN] at hle
        exact segsS_mono ⟨by omega, by omega⟩ (k := 0) (by omega) h
      · cases h

theorem wideL_mono {n at_ : Int} {N : Nat} (hc : 0 ≤ at_ + 12 ∧ at_ + 16 + 3 * N * 4 ≤ b.length) : ∀ {q k : Nat} {last : Int} {l l' : List Grp}, k + q = N → wideL b n at_ q k last l = some l' → wideL (b ++ m) n at_ q k last l = some l'
  | 0, k, last, l, l', _, h => h
  | q + 1, k, last, l, l', hk, h => by
    rw [wideL] at h ⊢
    rw [nm_mono (a := at_ + 16 + (3 * (k : Int)) * 4) (by omega) (by omega) (by omega), nm_mono (a := at_ + 16 + (3 * (k : Int) + 1) * 4) (by omega) (by omega) (by omega), nm_mono (a := at_ + 16 + (3 * (k : Int) + 2) * 4) (by omega) (by omega) (by omega)]
    split at h
    · cases h
    · rename_i hft
      rw [if_neg hft]
      exact wideL_mono hc (k := k + 1) (by omega) h

theorem wideS_mono (hb : Bytes b) {n at_ : Int} {l : List Grp} (h : wideS b n at_ = some l) : wideS (b ++ m) n at_ = some l := by
  have hl := len_mono (b := b) (m := m)
  unfold wideS at h ⊢
  split at h
  · cases h
  · rename_i v hv
    have h2 := rd4 hb (at_ + 12)
    rw [hv] at h2
    simp only [Option.getD_some] at h2
    rw [rd_mono hv]
    simp only []
    split at h
    · cases h
    · rename_i h0
      rw [if_neg h0]
      split at h
      · rename_i hle
        have hw := rd_within hv
        rw [if_pos (by omega)]
        obtain ⟨N, rfl⟩ : ∃ N : Nat, v = N := ⟨v.toNat, by omega⟩
        rw [Int.toNat_natCast] at h ⊢
        exact wideL_mono ⟨by omega, by omega⟩ (k := 0) (by omega) h
      · cases h

theorem recS_mono {at_ : Int} : ∀ {q k : Nat} {p p' : Int × Int}, recS b at_ q k p = some p' → recS (b ++ m) at_ q k p = some p'
  | 0, k, p, p', h => h
  | q + 1, k, p, p', h => by
    have hl := len_mono (b := b) (m := m)
    rw [recS] at h ⊢
    split at h
    · cases h
    · rename_i o ho
      rw [rd_mono ho]
      simp only []
      split at h
      · cases h
      · rename_i h0
        rw [if_neg (by omega)]
        split at h
        · cases h
        · rename_i f hf
          rw [rd_mono hf]
          exact recS_mono h

theorem codesS_mono (hb : Bytes b) {n at_ : Int} {l : List Grp} (h : codesS b at_ n = some l) : codesS (b ++ m) at_ n = some l := by
  unfold codesS at h ⊢
  split at h
  · cases h
  · rename_i h0
    rw [if_neg h0]
    split at h
    · rename_i v k hv hk
      rw [rd_mono hv, rd_mono hk]
      simp only []
      split at h
      · cases h
      · rename_i h1
        rw [if_neg h1]
        split at h
        · cases h
        · rename_i p hp
          rw [recS_mono hp]
          simp only []
          unfold pickS at h ⊢
          split at h
          · rename_i q1
            rw [if_pos q1]
            exact wideS_mono hb h
          · rename_i q1
            rw [if_neg q1]
            split at h
            · rename_i q2
              rw [if_pos q2]
              exact segmentsS_mono hb h
            · rename_i q2
              rw [if_neg q2]
              exact h
    · cases h

theorem triL_mono {at_ : Int} {N : Nat} (hc : 0 ≤ at_ + 2 ∧ at_ + 4 + 3 * N * 2 ≤ b.length) : ∀ {q k : Nat} {last : Int} {l l' : List Cls}, k + q = N → triL b at_ q k last l = some l' → triL (b ++ m) at_ q k last l = some l'
  | 0, k, last, l, l', _, h => h
  | q + 1, k, last, l, l', hk, h => by
    rw [triL] at h ⊢
    rw [nm_mono (a := at_ + 4 + (3 * (k : Int)) * 2) (by omega) (by omega) (by omega), nm_mono (a := at_ + 4 + (3 * (k : Int) + 1) * 2) (by omega) (by omega) (by omega), nm_mono (a := at_ + 4 + (3 * (k : Int) + 2) * 2) (by omega) (by omega) (by omega)]
    split at h
    · cases h
    · rename_i hft
      rw [if_neg hft]
      exact triL_mono hc (k := k + 1) (by omega) h

theorem triS_mono (hb : Bytes b) {at_ : Int} {l : List Cls} (h : triS b at_ = some l) : triS (b ++ m) at_ = some l := by
  have hl := len_mono (b := b) (m := m)
  unfold triS at h ⊢
  split at h
  · cases h
  · rename_i v hv
    have h2 := rd2 hb (at_ + 2)
    rw [hv] at h2
    simp only [Option.getD_some] at h2
    rw [rd_mono hv]
    simp only []
    split at h
    · rename_i hle
      have hw := rd_within hv
      rw [if_pos (by omega)]
      obtain ⟨N, rfl⟩ : ∃ N : Nat, v = N := ⟨v.toNat, by omega⟩
      rw [Int.toNat_natCast] at h ⊢
      exact triL_mono ⟨by omega, by omega⟩ (k := 0) (by omega) h
    · cases h

theorem glyL_mono {at_ : Int} {N : Nat} (hc : 0 ≤ at_ + 2 ∧ at_ + 4 + N * 2 ≤ b.length) : ∀ {q k : Nat} {last : Int} {l l' : List Spn}, k + q = N → glyL b at_ q k last l = some l' → glyL (b ++ m) at_ q k last l = some l'
  | 0, k, last, l, l', _, h => h
  | q + 1, k, last, l, l', hk, h => by
    rw [glyL] at h ⊢
    rw [nm_mono (a := at_ + 4 + (k : Int) * 2) (by omega) (by omega) (by omega)]
    split at h
    · cases h
    · rename_i hft
      rw [if_neg hft]
      exact glyL_mono hc (k := k + 1) (by omega) h

theorem glyS_mono (hb : Bytes b) {at_ : Int} {l : List Spn} (h : glyS b at_ = some l) : glyS (b ++ m) at_ = some l := by
  have hl := len_mono (b := b) (m := m)
  unfold glyS at h ⊢
  split at h
  · cases h
  · rename_i v hv
    have h2 := rd2 hb (at_ + 2)
    rw [hv] at h2
    simp only [Option.getD_some] at h2
    rw [rd_mono hv]
    simp only []
    split at h
    · rename_i hle
      have hw := rd_within hv
      rw [if_pos (by omega)]
      obtain ⟨N, rfl⟩ : ∃ N : Nat, v = N := ⟨v.toNat, by omega⟩
      rw [Int.toNat_natCast] at h ⊢
      exact glyL_mono ⟨by omega, by omega⟩ (k := 0) (by omega) h
    · cases h

theorem covS_mono (hb : Bytes b) {at_ : Int} {l : List Spn} (h : covS b at_ = some l) : covS (b ++ m) at_ = some l := by
  unfold covS at h ⊢
  split at h
  · rename_i h1
    rw [rd_mono (rd_getD (by omega) h1)]
    exact glyS_mono hb h
  · split at h
    · rename_i h2
      rw [rd_mono (rd_getD (by omega) h2)]
      simp only [Option.getD_some]
      rw [if_neg (by omega), if_pos trivial]
      unfold ranS at h ⊢
      split at h
      · cases h
      · rename_i t ht
        rw [triS_mono hb ht]
        exact h
    · cases h

theorem cl1L_mono {at_ first : Int} {N : Nat} (hc : 0 ≤ at_ + 4 ∧ at_ + 4 + 2 + N * 2 ≤ b.length) : ∀ {q k : Nat} {l : List Cls}, k + q = N → cl1L (b ++ m) at_ first q k l = cl1L b at_ first q k l
  | 0, k, l, _ => rfl
  | q + 1, k, l, hk => by
    rw [cl1L, cl1L, nm_mono (a := at_ + 4 + 2 + (k : Int) * 2) (by omega) (by omega) (by omega)]
    exact cl1L_mono hc (k := k + 1) (by omega)

theorem clsS_mono (hb : Bytes b) {at_ : Int} {l : List Cls} (h : clsS b at_ = some l) : clsS (b ++ m) at_ = some l := by
  have hl := len_mono (b := b) (m := m)
  unfold clsS at h ⊢
  split at h
  · rename_i h1
    have h1' := rd_getD (by omega) h1
    have hw1 := rd_within h1'
    rw [rd_mono h1']
    simp only [Option.getD_some]
    rw [if_pos trivial]
    unfold cl1S at h ⊢
    split at h
    · cases h
    · rename_i v hv
      have h2 := rd2 hb (at_ + 4)
      rw [hv] at h2
      simp only [Option.getD_some] at h2
      have hw := rd_within hv
      rw [rd_mono hv]
      simp only []
      have e2 : rd (b ++ m) (at_ + 2) 2 = rd b (at_ + 2) 2 := by
        refine rd_isSome ?_
        unfold rd
        rw [if_pos (by omega)]
        rfl
      rw [e2]
      split at h
      · rename_i hle
        rw [if_pos (by omega)]
        obtain ⟨N, rfl⟩ : ∃ N : Nat, v = N := ⟨v.toNat, by omega⟩
        rw [Int.toNat_natCast] at h ⊢
        rw [cl1L_mono (N := N) ⟨by omega, by omega⟩ (k := 0) (by omega)]
        exact h
      · cases h
  · split at h
    · rename_i h2
      rw [rd_mono (rd_getD (by omega) h2)]
      simp only [Option.getD_some]
      rw [if_neg (by omega), if_pos trivial]
      unfold cl2S at h ⊢
      split at h
      · cases h
      · rename_i t ht
        rw [triS_mono hb ht]
        exact h
    · cases h

theorem clsAt_mono (hb : Bytes b) {at_ place : Int} {l : List Cls} (h : clsAt b at_ place = some l) : clsAt (b ++ m) at_ place = some l := by
  unfold clsAt at h ⊢
  split at h
  · cases h
  · rename_i o ho
    rw [rd_mono ho]
    simp only []
    split at h
    · rename_i h0
      rw [if_pos h0]; exact h
    · rename_i h0
      rw [if_neg h0]
      exact clsS_mono hb h

theorem setL_mono (hb : Bytes b) {a : Int} {N : Nat} (hc : 0 ≤ a ∧ a + 4 + N * 4 ≤ b.length) : ∀ {q k : Nat} {l l' : List (List Spn)}, k + q = N → setL b a q k l = some l' → setL (b ++ m) a q k l = some l'
  | 0, k, l, l', _, h => h
  | q + 1, k, l, l', hk, h => by
    have hl := len_mono (b := b) (m := m)
    rw [setL] at h ⊢
    rw [nm_mono (a := a + 4 + (k : Int) * 4) (by omega) (by omega) (by omega)]
    split at h
    · cases h
    · rename_i h0
      rw [if_neg (by omega)]
      split at h
      · cases h
      · rename_i s hs
        rw [covS_mono hb hs]
        exact setL_mono hb hc (k := k + 1) (by omega) h

theorem setsS_mono (hb : Bytes b) {at_ place : Int} {l : List (List Spn)} (h : setsS b at_ place = some l) : setsS (b ++ m) at_ place = some l := by
  have hl := len_mono (b := b) (m := m)
  unfold setsS at h ⊢
  split at h
  · cases h
  · rename_i o ho
    rw [rd_mono ho]
    simp only []
    split at h
    · rename_i h0
      rw [if_pos h0]; exact h
    · rename_i h0
      rw [if_neg h0]
      split at h
      · cases h
      · rename_i hgood
        have h1 := rd_getD (k := 1) (by omega) (Decidable.of_not_not fun hh => hgood (.inl hh))
        have hw := rd_within h1
        have h2 := rd2 hb (at_ + o + 2)
        have e2 : rd (b ++ m) (at_ + o + 2) 2 = rd b (at_ + o + 2) 2 := by
          refine rd_isSome ?_
          unfold rd
          rw [if_pos (by omega)]
          rfl
        rw [rd_mono h1, e2]
        rw [if_neg (by simp only [Option.getD_some]; omega)]
        obtain ⟨N, hN⟩ : ∃ N : Nat, (rd b (at_ + o + 2) 2).getD 0 = N := ⟨((rd b (at_ + o + 2) 2).getD 0).toNat, by omega⟩
        rw [hN] at hgood
        rw [hN, Int.toNat_natCast] at h ⊢
        exact setL_mono (N := N) hb ⟨by omega, by omega⟩ (k := 0) (by omega) h

theorem bothS_some {x y : Option (List Cls)} {z : Option (List (List Spn))} {d : Gd} (h : bothS x y z = some d) : x = some d.cls ∧ y = some d.att ∧ z = some d.sets := by
  cases x <;> cases y <;> cases z <;> simp only [bothS] at h <;> first | (cases h; done) | (injection h with h; subst h; exact ⟨rfl, rfl, rfl⟩)

theorem readS_mono (hb : Bytes b) {at_ : Int} {d : Gd} (h : readS b at_ = some d) : readS (b ++ m) at_ = some d := by
  have hl := len_mono (b := b) (m := m)
  unfold readS at h ⊢
  split at h
  · cases h
  · rename_i v hv
    rw [rd_mono hv]
    simp only []
    split at h
    · cases h
    · rename_i h0
      rw [if_neg h0]
      split at h
      · cases h
      · rename_i h1
        rw [if_neg (by omega)]
        obtain ⟨q1, q2, q3⟩ := bothS_some h
        rw [clsAt_mono hb q1, clsAt_mono hb q2]
        split at q3
        · rename_i h2
          rw [if_pos h2, setsS_mono hb q3]
          rfl
        · rename_i h2
          rw [if_neg h2, q3]
          rfl
end Go.Proofs.Ytohmjbgcmccplaa
