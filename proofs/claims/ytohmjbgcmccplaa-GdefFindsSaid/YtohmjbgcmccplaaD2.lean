/- The statement on what is found: whatever the input, every code's glyph, every glyph's class, and whether it is in a set of marks, are the document's; each argument reads behind the call as it did. No condition. -/
import Derived.Test.YtohmjbgcmccplaaD1
import Derived.Test.YtohmjbgcmccplaaC18
import Derived.Test.YtohmjbgcmccplaaRows
namespace Go.Proofs.Ytohmjbgcmccplaa
open Go Go.Ab Go.ChangeShapes Go.WideShapes Go.ChangeAt Go.RowKit

set_option maxRecDepth 100000 in
theorem finds_lifted (os : Os) (started : os.Started) (H : Type) (enc : TypeId × Value → H) :
    ReturnsInHanded {} Try.checked os 4 .any (Rows.gdefFindsSpec.pre6 enc Try.prog Try.f4 Rows.gdefFindsRow.domain false) (Rows.gdefFindsSpec.post enc Try.prog Try.f4 false true false false) := by
  refine law_lifted (tb := 4) Try.own started (by kernel_rfl) Try.func4
    (ChangeSpec.witness6 (enc := enc) (C := Try.checked) false ⟨#[], #[.slice none 0 0, .agg #[.slice none 0 0, .slice none 0 0, .slice none 0 0], .int .i32 0, .int .i64 0, .int .i64 0], []⟩ 8 (by kernel_rfl) (by kernel_rfl) (by kernel_rfl) (by kernel_rfl))
    Try.laidOut (by kernel_rfl) rfl (by kernel_rfl) Try.underlying4 (fun ds hd => ?_) (fun W base args ds ps hval0 hA0 => ?_)
  · match ds, hd with
    | [d1, d2, d3, d4, d5], _ => rfl
  · have hval : ∀ (j : Nat) t v, Try.f4.params[j]? = some t → args[j]? = some v → Value.okWide Try.prog W .any base t v := hval0
    have hA : DataW.TrodAll enc Try.prog W 0 (fun _ => true) true Try.f4.params.toList args.toList ds ps := hA0
    clear hval0 hA0
    rw [Try.params4] at hA hval
    obtain ⟨args⟩ := args
    obtain ⟨v0, vs, d0, ds, p0, q0, rfl, rfl, rfl, h0, hA⟩ := trodAll_cons hA
    obtain ⟨v1, vs, d1, ds, p1, q1, rfl, rfl, rfl, h1, hA⟩ := trodAll_cons hA
    obtain ⟨v2, vs, d2, ds, p2, q2, rfl, rfl, rfl, h2, hA⟩ := trodAll_cons hA
    obtain ⟨v3, vs, d3, ds, p3, q3, rfl, rfl, rfl, h3, hA⟩ := trodAll_cons hA
    obtain ⟨v4, vs, d4, ds, p4, q4, rfl, rfl, rfl, h4, hA⟩ := trodAll_cons hA
    obtain ⟨rfl, rfl, rfl⟩ := trodAll_nil hA
    obtain ⟨r0, f0, g0⟩ := given_slice shape32 Try.underlying32 (by kernel_rfl) (hval 0 32 v0 rfl rfl) h0
    obtain ⟨r1, f1, g1⟩ := given_struct shape27 Try.underlying27 (hval 1 27 v1 rfl rfl) h1
    obtain ⟨z2, w2, rfl⟩ := given_int (n := 0) Try.underlying21 (hval 2 21 v2 rfl rfl) h2
    obtain ⟨z3, w3, rfl⟩ := given_int (n := 0) Try.underlying3 (hval 3 3 v3 rfl rfl) h3
    obtain ⟨z4, w4, rfl⟩ := given_int (n := 0) Try.underlying3 (hval 4 3 v4 rfl rfl) h4
    obtain ⟨l, rfl, hl, hG⟩ := fit_groups f0
    obtain ⟨hlen, hfit⟩ := f1
    match r1, hlen, hfit, g1 with
    | [a, b, c], _, hfit, g1 =>
      have ha := hfit 0 _ a rfl rfl
      have hb := hfit 1 _ b rfl rfl
      have hc := hfit 2 _ c rfl rfl
      cases ha with
      | sl _ ra qa1 qa2 qa3 =>
        cases hb with
        | sl _ rb qb1 qb2 qb3 =>
          cases hc with
          | sl _ rc qc1 qc2 qc3 =>
            obtain ⟨cl, rfl, hcl, hC⟩ := fit_classes (.sl _ ra qa1 qa2 qa3)
            obtain ⟨ss, rfl, hss, hS⟩ := fit_sets (.sl _ rc qc1 qc2 qc3)
            have hm : maxLen ≤ 9223372036854775807 := by decide
            refine ⟨_, ?_, finds_fn l (Nat.le_trans hl hm) hG cl (Nat.le_trans hcl hm) hC rb ss (Nat.le_trans hss hm) (fun s hs => ⟨Nat.le_trans (hS s hs).1 hm, (hS s hs).2⟩) z2 (wf32 w2) z3 z4 (wf64 w3) (wf64 w4)⟩
            refine ⟨rfl, fun i x hx => ?_⟩
            match i, hx with
            | 0, hx => injection hx with hx; subst hx; exact ⟨_, rfl, g0⟩
            | 1, hx => injection hx with hx; subst hx; exact ⟨_, rfl, g1⟩
            | 2, hx => injection hx with hx; subst hx; exact ⟨_, rfl, .p (.sc _)⟩
            | 3, hx => injection hx with hx; subst hx; exact ⟨_, rfl, .p (.sc _)⟩
            | 4, hx => injection hx with hx; subst hx; exact ⟨_, rfl, .p (.sc _)⟩

theorem gdefFinds_holds : Rows.GdefFindsSaid :=
  OpenClaim.holds_of_wide 4 Try.f4 rfl rfl rfl rfl rfl rfl rfl ⟨rfl, rfl, rfl, rfl, rfl⟩ rfl rfl rfl rfl rfl (by kernel_rfl) Try.func4 (by kernel_rfl)
    (of_decide_eq_true (by kernel_rfl)) (by unfold Func.isWrapper; first | (rw [if_pos (by decide +kernel)]; kernel_rfl) | (rw [if_neg (by decide +kernel)]; exact ⟨rfl, rfl⟩))
    (fun os started H enc _ => finds_lifted os started H enc)
end Go.Proofs.Ytohmjbgcmccplaa
