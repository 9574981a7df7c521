/- How long the lists of a table GDEF are. No condition. -/
import Derived.Test.YtohmjbgcmccplaaC26
namespace Go.Proofs.Ytohmjbgcmccplaa
open Go Go.Ab
set_option linter.unusedVariables false

theorem bothS_parts {x y : Option (List Cls)} {z : Option (List (List Spn))} {d : Gd} (h : bothS x y z = some d) : x = some d.cls ∧ y = some d.att ∧ z = some d.sets := by
  cases x <;> cases y <;> cases z <;> simp only [bothS] at h <;> first | (cases h; done) | (injection h with h; subst h; exact ⟨rfl, rfl, rfl⟩)

theorem cl1L_len {b : List Int} {at_ first : Int} : ∀ {q k : Nat} {l : List Cls}, (cl1L b at_ first q k l).length ≤ l.length + q
  | 0, k, l => by simp [cl1L]
  | q + 1, k, l => by
    rw [cl1L]
    have h1 := cl1L_len (b := b) (at_ := at_) (first := first) (q := q) (k := k + 1) (l := clsdS l ⟨first + k, first + k, nm b (at_ + 4 + 2 + k * 2) 2⟩)
    have h2 := clsdS_len l ⟨first + k, first + k, nm b (at_ + 4 + 2 + k * 2) 2⟩
    omega
theorem foldl_len : ∀ (l out : List Cls), (l.foldl clsdS out).length ≤ out.length + l.length
  | [], out => by simp
  | x :: l, out => by
    have h1 := foldl_len l (clsdS out x)
    have h2 := clsdS_len out x
    simp only [List.foldl_cons, List.length_cons]
    omega
theorem glyL_len {b : List Int} {at_ : Int} : ∀ {q k : Nat} {last : Int} {l l' : List Spn}, glyL b at_ q k last l = some l' → l'.length ≤ l.length + q
  | 0, k, last, l, l', h => by simp [glyL] at h; subst h; omega
  | q + 1, k, last, l, l', h => by
    rw [glyL] at h
    split at h
    · cases h
    · have h1 := glyL_len h
      have h2 := joinS_len l ⟨nm b (at_ + 4 + k * 2) 2, nm b (at_ + 4 + k * 2) 2⟩
      omega
theorem ranL_len : ∀ {t : List Cls} {i : Int} {l l' : List Spn}, ranL t i l = some l' → l'.length ≤ l.length + t.length
  | [], i, l, l', h => by simp [ranL] at h; subst h; simp
  | x :: t, i, l, l', h => by
    rw [ranL] at h
    split at h
    · cases h
    · have h1 := ranL_len h
      have h2 := joinS_len l ⟨x.lo, x.hi⟩
      simp only [List.length_cons]
      omega
theorem covS_len {b : List Int} (hb : Bytes b) {at_ : Int} {l : List Spn} (h : covS b at_ = some l) : l.length ≤ 65535 := by
  unfold covS at h
  split at h
  · unfold glyS at h
    split at h
    · cases h
    · rename_i v hv
      have h2 := rd2 hb (at_ + 2)
      rw [hv] at h2
      simp only [Option.getD_some] at h2
      split at h
      · have := glyL_len h
        simp only [List.length_nil] at this
        omega
      · cases h
  · split at h
    · unfold ranS at h
      split at h
      · cases h
      · rename_i t ht
        have := ranL_len h
        have := (triS_ok hb ht).2
        simp only [List.length_nil] at *
        omega
    · cases h
theorem clsAt_len {b : List Int} (hb : Bytes b) {at_ place : Int} {l : List Cls} (h : clsAt b at_ place = some l) : l.length ≤ 65535 := by
  unfold clsAt at h
  split at h
  · cases h
  · rename_i o ho
    split at h
    · injection h with h; subst h; simp
    · unfold clsS at h
      split at h
      · unfold cl1S at h
        split at h
        · cases h
        · rename_i v hv
          have h2 := rd2 hb (at_ + o + 4)
          rw [hv] at h2
          simp only [Option.getD_some] at h2
          split at h
          · injection h with h
            subst h
            have := cl1L_len (b := b) (at_ := at_ + o) (first := (rd b (at_ + o + 2) 2).getD 0) (q := v.toNat) (k := 0) (l := [])
            simp only [List.length_nil] at this
            omega
          · cases h
      · split at h
        · unfold cl2S at h
          split at h
          · cases h
          · rename_i t ht
            injection h with h
            subst h
            have := foldl_len t []
            have := (triS_ok hb ht).2
            simp only [List.length_nil] at *
            omega
        · cases h
theorem setL_len {b : List Int} (hb : Bytes b) {a : Int} : ∀ {q k : Nat} {l l' : List (List Spn)}, (∀ s ∈ l, s.length ≤ 65535) → setL b a q k l = some l' → l'.length = l.length + q ∧ ∀ s ∈ l', s.length ≤ 65535
  | 0, k, l, l', hl, h => by simp [setL] at h; subst h; exact ⟨rfl, hl⟩
  | q + 1, k, l, l', hl, h => by
    rw [setL] at h
    split at h
    · cases h
    · split at h
      · cases h
      · rename_i s hs
        have := covS_len hb hs
        obtain ⟨h1, h2⟩ := setL_len hb (fun x hx => by
          rw [List.mem_append, List.mem_singleton] at hx
          rcases hx with hx | rfl
          · exact hl x hx
          · exact this) h
        exact ⟨by rw [h1]; simp; omega, h2⟩
theorem readS_len {b : List Int} (hb : Bytes b) {at_ : Int} {d : Gd} (h : readS b at_ = some d) : GdLen d := by
  unfold readS at h
  split at h
  · cases h
  · split at h
    · cases h
    · split at h
      · cases h
      · obtain ⟨q1, q2, q3⟩ := bothS_parts h
        have h1 := clsAt_len hb q1
        have h2 := clsAt_len hb q2
        have h3 : d.sets.length ≤ 65535 ∧ ∀ s ∈ d.sets, s.length ≤ 65535 := by
          split at q3
          · unfold setsS at q3
            split at q3
            · cases q3
            · rename_i o ho
              split at q3
              · injection q3 with q3; rw [← q3]; simp
              · split at q3
                · cases q3
                · rename_i hgood
                  obtain ⟨h4, h5⟩ := setL_len hb (by simp) q3
                  refine ⟨?_, h5⟩
                  rw [h4]; simp only [List.length_nil]; omega
          · injection q3 with q3; rw [← q3]; simp
        exact ⟨by omega, by omega, by omega, fun s hs => by have := h3.2 s hs; omega⟩

end Go.Proofs.Ytohmjbgcmccplaa
