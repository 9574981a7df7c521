/- The statement on bytes behind: whatever the input, bytes behind turn nothing of tables that are there; each argument reads behind the call as it did. No condition. -/
import Derived.Test.YtohmjbgcmccplaaD1
import Derived.Test.YtohmjbgcmccplaaC27
import Derived.Test.YtohmjbgcmccplaaRows
namespace Go.Proofs.Ytohmjbgcmccplaa
open Go Go.Ab Go.ChangeShapes Go.WideShapes Go.ChangeAt Go.RowKit

set_option maxRecDepth 100000 in
theorem behind_lifted (os : Os) (started : os.Started) (H : Type) (enc : TypeId × Value → H) :
    ReturnsInHanded {} Try.checked os 6 .any (Rows.gdefBehindSpec.pre6 enc Try.prog Try.f6 Rows.gdefBehindRow.domain false) (Rows.gdefBehindSpec.post enc Try.prog Try.f6 false true false false) := by
  refine law_lifted (tb := 4) Try.own started (by kernel_rfl) Try.func6
    (ChangeSpec.witness6 (enc := enc) (C := Try.checked) false ⟨#[], #[.slice none 0 0, .slice none 0 0, .int .i64 0], []⟩ 8 (by kernel_rfl) (by kernel_rfl) (by kernel_rfl) (by kernel_rfl))
    Try.laidOut (by kernel_rfl) rfl (by kernel_rfl) Try.underlying4 (fun ds hd => ?_) (fun W base args ds ps hval0 hA0 => ?_)
  · match ds, hd with
    | [d1, d2, d3], _ => rfl
  · have hval : ∀ (j : Nat) t v, Try.f6.params[j]? = some t → args[j]? = some v → Value.okWide Try.prog W .any base t v := hval0
    have hA : DataW.TrodAll enc Try.prog W 0 (fun _ => true) true Try.f6.params.toList args.toList ds ps := hA0
    clear hval0 hA0
    rw [Try.params6] at hA hval
    obtain ⟨args⟩ := args
    obtain ⟨v0, vs, d0, ds, p0, q0, rfl, rfl, rfl, h0, hA⟩ := trodAll_cons hA
    obtain ⟨v1, vs, d1, ds, p1, q1, rfl, rfl, rfl, h1, hA⟩ := trodAll_cons hA
    obtain ⟨v2, vs, d2, ds, p2, q2, rfl, rfl, rfl, h2, hA⟩ := trodAll_cons hA
    obtain ⟨rfl, rfl, rfl⟩ := trodAll_nil hA
    obtain ⟨r0, f0, g0⟩ := given_slice shape22 Try.underlying22 (by kernel_rfl) (hval 0 22 v0 rfl rfl) h0
    obtain ⟨r1, f1, g1⟩ := given_slice shape22 Try.underlying22 (by kernel_rfl) (hval 1 22 v1 rfl rfl) h1
    obtain ⟨z2, w2, rfl⟩ := given_int (n := 0) Try.underlying3 (hval 2 3 v2 rfl rfl) h2
    obtain ⟨b, rfl, hl, hb⟩ := fit_bytes f0
    obtain ⟨m, rfl, hml, hmb⟩ := fit_bytes f1
    have hm : maxLen ≤ 9223372036854775807 := by decide
    refine ⟨_, ?_, behind_fn b m (Nat.le_trans hl hm) (Nat.le_trans hml hm) hb hmb z2 (wf64 w2)⟩
    refine ⟨rfl, fun i x hx => ?_⟩
    match i, hx with
    | 0, hx => injection hx with hx; subst hx; exact ⟨_, rfl, g0⟩
    | 1, hx => injection hx with hx; subst hx; exact ⟨_, rfl, g1⟩
    | 2, hx => injection hx with hx; subst hx; exact ⟨_, rfl, .p (.sc _)⟩

theorem gdefBehind_holds : Rows.GdefBehindSaid :=
  OpenClaim.holds_of_wide 6 Try.f6 rfl rfl rfl rfl rfl rfl rfl ⟨rfl, rfl, rfl, rfl, rfl⟩ rfl rfl rfl rfl rfl (by kernel_rfl) Try.func6 (by kernel_rfl)
    (of_decide_eq_true (by kernel_rfl)) (by unfold Func.isWrapper; first | (rw [if_pos (by decide +kernel)]; kernel_rfl) | (rw [if_neg (by decide +kernel)]; exact ⟨rfl, rfl⟩))
    (fun os started H enc _ => behind_lifted os started H enc)
end Go.Proofs.Ytohmjbgcmccplaa
