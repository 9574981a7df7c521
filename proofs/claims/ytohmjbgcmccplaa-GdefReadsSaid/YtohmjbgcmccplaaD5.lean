/- The statement on reading: the table GDEF at every place of all bytes, or that there is none, is the document's; each argument reads behind the call as it did. No condition. -/
import Derived.Test.YtohmjbgcmccplaaD1
import Derived.Test.YtohmjbgcmccplaaC28
import Derived.Test.YtohmjbgcmccplaaRows
namespace Go.Proofs.Ytohmjbgcmccplaa
open Go Go.Ab Go.ChangeShapes Go.WideShapes Go.ChangeAt Go.RowKit

set_option maxRecDepth 100000 in
theorem reads_lifted (os : Os) (started : os.Started) (H : Type) (enc : TypeId × Value → H) :
    ReturnsInHanded {} Try.checked os 3 .any (Rows.gdefReadsSpec.pre6 enc Try.prog Try.f3 Rows.gdefReadsRow.domain false) (Rows.gdefReadsSpec.post enc Try.prog Try.f3 false true false false) := by
  refine law_lifted (tb := 4) Try.own started (by kernel_rfl) Try.func3
    (ChangeSpec.witness6 (enc := enc) (C := Try.checked) false ⟨#[], #[.slice none 0 0, .int .i64 0], []⟩ 8 (by kernel_rfl) (by kernel_rfl) (by kernel_rfl) (by kernel_rfl))
    Try.laidOut (by kernel_rfl) rfl (by kernel_rfl) Try.underlying4 (fun ds hd => ?_) (fun W base args ds ps hval0 hA0 => ?_)
  · match ds, hd with
    | [d1, d2], _ => rfl
  · have hval : ∀ (j : Nat) t v, Try.f3.params[j]? = some t → args[j]? = some v → Value.okWide Try.prog W .any base t v := hval0
    have hA : DataW.TrodAll enc Try.prog W 0 (fun _ => true) true Try.f3.params.toList args.toList ds ps := hA0
    clear hval0 hA0
    rw [Try.params3] at hA hval
    obtain ⟨args⟩ := args
    obtain ⟨v0, vs, d0, ds, p0, q0, rfl, rfl, rfl, h0, hA⟩ := trodAll_cons hA
    obtain ⟨v1, vs, d1, ds, p1, q1, rfl, rfl, rfl, h1, hA⟩ := trodAll_cons hA
    obtain ⟨rfl, rfl, rfl⟩ := trodAll_nil hA
    obtain ⟨r0, f0, g0⟩ := given_slice shape22 Try.underlying22 (by kernel_rfl) (hval 0 22 v0 rfl rfl) h0
    obtain ⟨z1, w1, rfl⟩ := given_int Try.underlying3 (hval 1 3 v1 rfl rfl) h1
    obtain ⟨b, rfl, hl, hb⟩ := fit_bytes f0
    have hm : maxLen ≤ 9223372036854775807 := by decide
    refine ⟨_, ?_, reads_fn b (Nat.le_trans hl hm) hb z1 (wf64 w1)⟩
    refine ⟨rfl, fun i x hx => ?_⟩
    match i, hx with
    | 0, hx => injection hx with hx; subst hx; exact ⟨_, rfl, g0⟩
    | 1, hx => injection hx with hx; subst hx; exact ⟨_, rfl, .p (.sc _)⟩

theorem gdefReads_holds : Rows.GdefReadsSaid :=
  OpenClaim.holds_of_wide 3 Try.f3 rfl rfl rfl rfl rfl rfl rfl ⟨rfl, rfl, rfl, rfl, rfl⟩ rfl rfl rfl rfl rfl (by kernel_rfl) Try.func3 (by kernel_rfl)
    (of_decide_eq_true (by kernel_rfl)) (by unfold Func.isWrapper; first | (rw [if_pos (by decide +kernel)]; kernel_rfl) | (rw [if_neg (by decide +kernel)]; exact ⟨rfl, rfl⟩))
    (fun os started H enc _ => reads_lifted os started H enc)
end Go.Proofs.Ytohmjbgcmccplaa
