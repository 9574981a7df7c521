/- What the document's reader of the table GDEF tells. No condition. -/
import Derived.Test.YtohmjbgcmccplaaR7
namespace Go.Proofs.Ytohmjbgcmccplaa
open Go Go.Ab
set_option maxRecDepth 100000
set_option maxHeartbeats 4000000
set_option linter.unusedSimpArgs false
set_option linter.unusedVariables false
attribute [local irreducible] grdO grdP condK conO conP regO regP Again

theorem rread_b (b : List Int) (hb : Bytes b) (hl : b.length ≤ 1000000) (at_ : Int) (ha : -1000000 ≤ at_ ∧ at_ ≤ 1000000) (v : Int) (hv : rd b at_ 4 = some v) (hv2 : v = 65538) (hw : 0 ≤ at_ ∧ at_ + 12 ≤ b.length) (res : Option Gd) (hres : readS b at_ = res) :
    AFun Try.prog 9 [bytesA b, i64 at_] (gdA res) := by
  have c1 := ru32_fn b hb (by omega) at_
  rw [show ru4 b at_ = v by unfold ru4; rw [hv]; rfl] at c1
  have c2 := ru16_fn b hb (by omega) (at_ + 10)
  have e10 : ru2 b (at_ + 10) = nm b (at_ + 10) 2 := ru2_in (by omega) (by omega)
  have t10 := nm2 hb (a := at_ + 10) (by omega) (by omega)
  rw [e10] at c2
  unfold readS at hres
  rw [hv] at hres
  simp only [] at hres
  rw [if_neg (by omega), if_neg (by omega), if_pos hv2, show at_ + 4 + 8 = at_ + 12 by omega] at hres
  refine acalls_body Try.func9 rfl Try.ntmps9 (by simp) ?_
  rw [Try.results9]
  repeat' ((first
    | refine cs_seq ?_
    | refine cs_reg (by rfl) (fun K Kp hK hKp => ?_)
    | refine cs_drw mixed (by rfl) (by kernel_rfl) (fun K hK => ?_)
    | (refine hK _ _ ?_; try clear hKp; try clear hK; try clear Kp; try clear K)
    | refine cs_cond ?_
    | refine cs_ret (ret_fn ?_)
    | refine cs_scope ?_
    | refine cs_label ?_
    | refine cs_block ?_
    | refine cs_skip ?_
    | refine cs_exit ?_
    | ((first | refine grdO_dec (fun hp => ?_) (fun hp => ?_) | refine grdO_nd (fun hp => ?_) (fun hp => ?_) | refine grdO_nb (fun hp => ?_) (fun hp => ?_) | refine grdO_b (fun hp => ?_) (fun hp => ?_) | refine grdP_dec (fun hp => ?_) (fun hp => ?_) | refine grdP_nd (fun hp => ?_) (fun hp => ?_) | refine grdP_nb (fun hp => ?_) (fun hp => ?_) | refine grdP_b (fun hp => ?_) (fun hp => ?_) | refine condK_d (fun hp => ?_) (fun hp => ?_) | refine condK_nd (fun hp => ?_) (fun hp => ?_) | refine condK_nb (fun hp => ?_) (fun hp => ?_) | refine condK_b (fun hp => ?_) (fun hp => ?_)) <;> first | (exfalso; omega; done) | skip)
    | (refine regO_call rfl ?_; refine CallK.fn (c1) (by simp only [push_cast]) rfl (by simp only [push_cast, and_self]) (by simp only [push_cast, and_self]) (by simp only [push_cast, ↓reduceIte, Nat.reduceEqDiff, Nat.reduceAdd]) ?_)
    | (refine regO_call rfl ?_; refine CallK.fn (c2) (by simp only [push_cast]) rfl (by simp only [push_cast, and_self]) (by simp only [push_cast, and_self]) (by simp only [push_cast, ↓reduceIte, Nat.reduceEqDiff, Nat.reduceAdd]) ?_)
    | (with_reducible refine And.intro ?_ ?_; focus (first | omega | (constructor <;> omega) | (have hbits : IntKind.i64.bits = 64 := rfl; omega) | (simp []; done) | (simp []; omega)))) <;> try simp (disch := omega) only [push_cast, ↓omv, ↓oas, ↓opk, ↓oal, ↓obx, ↓obd, ↓obs, ↓old, ↓ost, ↓onc, ↓obo, ↓ouo, ↓ocv, ↓omf, ↓oms, ↓osl, ↓ofa, ↓ofd, ↓oia, ↓oix, ↓oex, ↓obi, ↓ogd, ↓pmv, ↓pas, ↓ppk, ↓pal, ↓pbx, ↓pbd, ↓pbs, ↓pld, ↓pst, ↓pnc, ↓pbo, ↓puo, ↓pcv, ↓pmf, ↓pms, ↓psl, ↓pfa, ↓pfd, ↓pia, ↓pix, ↓pex, ↓pbi, ↓pgd, ↓aop_build, ↓reduceIte, Nat.reduceEqDiff, Nat.reduceAdd, Nat.reduceMul, Nat.reduceSub, Nat.reduceLT, Nat.reduceLeDiff, reduceCtorEq, Int.reduceToNat])
  refine cs_adopt_cell 3 0 49 3 rfl rfl ?_
  refine cs_freeze 22 rfl ?_
  refine cs_frozen_cell 3 0 rfl rfl rfl rfl ?_
  refine cs_adopt_cell 3 1 49 3 rfl rfl ?_
  refine cs_freeze 23 rfl ?_
  refine cs_frozen_cell 3 1 rfl rfl rfl rfl ?_
  refine cs_lp (ι := Nat × List Cls × List Cls) (fun q => [(0, bytesA b), (1, i64 at_), (4, .ptr 0 0), (6, .ptr 1 0), (7, .ptr 2 0), (8, i64 v), (9, i64 q.1)]) (fun q => [(0, .box 27 [.nil, .nil, .nil]), (1, .box 27 [.nil, .nil, .nil]), (2, .box 27 [.p (.fro (classR q.2.1)), .p (.fro (classR q.2.2)), .nil])]) 3
    (fun q => q.1 ≤ 2 ∧ (q.1 = 0 → q.2.1 = [] ∧ q.2.2 = []) ∧ (1 ≤ q.1 → clsAt b at_ (at_ + 4) = some q.2.1) ∧ (q.1 = 1 → q.2.2 = []) ∧ (q.1 = 2 → clsAt b at_ (at_ + 4 + 6) = some q.2.2)) (fun q => 2 - q.1) (0, [], [])
    ⟨by simp, by simp, by simp, by simp, by simp⟩ ⟨ofL [(1, 2), (2, 3)], .ofL, ?_, ?_⟩ ?_
  · try simp (disch := omega) only [push_cast, ↓omv, ↓oas, ↓opk, ↓oal, ↓obx, ↓obd, ↓obs, ↓old, ↓ost, ↓onc, ↓obo, ↓ouo, ↓ocv, ↓omf, ↓oms, ↓osl, ↓ofa, ↓ofd, ↓oia, ↓oix, ↓oex, ↓obi, ↓ogd, ↓pmv, ↓pas, ↓ppk, ↓pal, ↓pbx, ↓pbd, ↓pbs, ↓pld, ↓pst, ↓pnc, ↓pbo, ↓puo, ↓pcv, ↓pmf, ↓pms, ↓psl, ↓pfa, ↓pfd, ↓pia, ↓pix, ↓pex, ↓pbi, ↓pgd, ↓aop_build, ↓reduceIte, Nat.reduceEqDiff, Nat.reduceAdd, Nat.reduceMul, Nat.reduceSub, Nat.reduceLT, Nat.reduceLeDiff, reduceCtorEq, Int.reduceToNat, Int.natCast_zero]
  · try simp (disch := omega) only [push_cast, ↓omv, ↓oas, ↓opk, ↓oal, ↓obx, ↓obd, ↓obs, ↓old, ↓ost, ↓onc, ↓obo, ↓ouo, ↓ocv, ↓omf, ↓oms, ↓osl, ↓ofa, ↓ofd, ↓oia, ↓oix, ↓oex, ↓obi, ↓ogd, ↓pmv, ↓pas, ↓ppk, ↓pal, ↓pbx, ↓pbd, ↓pbs, ↓pld, ↓pst, ↓pnc, ↓pbo, ↓puo, ↓pcv, ↓pmf, ↓pms, ↓psl, ↓pfa, ↓pfd, ↓pia, ↓pix, ↓pex, ↓pbi, ↓pgd, ↓aop_build, ↓reduceIte, Nat.reduceEqDiff, Nat.reduceAdd, Nat.reduceMul, Nat.reduceSub, Nat.reduceLT, Nat.reduceLeDiff, reduceCtorEq, Int.reduceToNat, List.set_cons_zero, List.set_cons_succ]
  rintro ⟨k, x, y⟩ ⟨hk1, hx0, hx1, hy1, hy2⟩
  simp only [] at hk1 hx0 hx1 hy1 hy2
  rcases (show k = 0 ∨ k = 1 ∨ k = 2 by omega) with hk | hk | hk
  · subst hk
    obtain ⟨rfl, rfl⟩ := hx0 rfl
    have c3 := ru16_fn b hb (by omega) (at_ + 4)
    have e3 : ru2 b (at_ + 4) = nm b (at_ + 4) 2 := ru2_in (by omega) (by omega)
    have t3 := nm2 hb (a := at_ + 4) (by omega) (by omega)
    have r3 : rd b (at_ + 4) 2 = some (nm b (at_ + 4) 2) := by
      unfold rd nm; rw [if_pos (by omega)]
    rw [e3] at c3
    by_cases ho : nm b (at_ + 4) 2 = 0
    · have hq : clsAt b at_ (at_ + 4) = some [] := by unfold clsAt; rw [r3]; simp only []; rw [if_pos ho]
      rw [ho] at c3
      repeat' ((first
    | refine cs_seq ?_
    | refine cs_reg (by rfl) (fun K Kp hK hKp => ?_)
    | refine cs_drw mixed (by rfl) (by kernel_rfl) (fun K hK => ?_)
    | (refine hK _ _ ?_; try clear hKp; try clear hK; try clear Kp; try clear K)
    | refine cs_cond ?_
    | refine cs_ret (ret_fn ?_)
    | refine cs_scope ?_
    | refine cs_label ?_
    | refine cs_block ?_
    | refine cs_skip ?_
    | refine cs_exit ?_
    | ((first | refine grdO_dec (fun hp => ?_) (fun hp => ?_) | refine grdO_nd (fun hp => ?_) (fun hp => ?_) | refine grdO_nb (fun hp => ?_) (fun hp => ?_) | refine grdO_b (fun hp => ?_) (fun hp => ?_) | refine grdP_dec (fun hp => ?_) (fun hp => ?_) | refine grdP_nd (fun hp => ?_) (fun hp => ?_) | refine grdP_nb (fun hp => ?_) (fun hp => ?_) | refine grdP_b (fun hp => ?_) (fun hp => ?_) | refine condK_d (fun hp => ?_) (fun hp => ?_) | refine condK_nd (fun hp => ?_) (fun hp => ?_) | refine condK_nb (fun hp => ?_) (fun hp => ?_) | refine condK_b (fun hp => ?_) (fun hp => ?_)) <;> first | (exfalso; omega; done) | skip)
    | (refine regO_call rfl ?_; refine CallK.fn (c3) (by simp only [push_cast]) rfl (by simp only [push_cast, and_self]) (by simp only [push_cast, and_self]) (by simp only [push_cast, ↓reduceIte, Nat.reduceEqDiff, Nat.reduceAdd]) ?_)
    | (with_reducible refine And.intro ?_ ?_; focus (first | omega | (constructor <;> omega) | (have hbits : IntKind.i64.bits = 64 := rfl; omega) | (simp [Int.natCast_zero, Int.natCast_one, Int.mul_zero, Int.mul_one, Int.add_zero]; done) | (simp [Int.natCast_zero, Int.natCast_one, Int.mul_zero, Int.mul_one, Int.add_zero]; omega)))) <;> try simp (disch := omega) only [push_cast, ↓omv, ↓oas, ↓opk, ↓oal, ↓obx, ↓obd, ↓obs, ↓old, ↓ost, ↓onc, ↓obo, ↓ouo, ↓ocv, ↓omf, ↓oms, ↓osl, ↓ofa, ↓ofd, ↓oia, ↓oix, ↓oex, ↓obi, ↓ogd, ↓pmv, ↓pas, ↓ppk, ↓pal, ↓pbx, ↓pbd, ↓pbs, ↓pld, ↓pst, ↓pnc, ↓pbo, ↓puo, ↓pcv, ↓pmf, ↓pms, ↓psl, ↓pfa, ↓pfd, ↓pia, ↓pix, ↓pex, ↓pbi, ↓pgd, ↓aop_build, ↓reduceIte, Nat.reduceEqDiff, Nat.reduceAdd, Nat.reduceMul, Nat.reduceSub, Nat.reduceLT, Nat.reduceLeDiff, reduceCtorEq, Int.reduceToNat, Int.natCast_zero, Int.natCast_one, Int.mul_zero, Int.mul_one, Int.add_zero])
      refine Again.intro (1, [], []) ⟨by simp, fun h => by simp at h, fun _ => hq, fun _ => rfl, fun h => by simp at h⟩ (by simp only []; omega) (ofL []) .ofL ?_ ?_
      · try simp (disch := omega) only [push_cast, ↓omv, ↓oas, ↓opk, ↓oal, ↓obx, ↓obd, ↓obs, ↓old, ↓ost, ↓onc, ↓obo, ↓ouo, ↓ocv, ↓omf, ↓oms, ↓osl, ↓ofa, ↓ofd, ↓oia, ↓oix, ↓oex, ↓obi, ↓ogd, ↓pmv, ↓pas, ↓ppk, ↓pal, ↓pbx, ↓pbd, ↓pbs, ↓pld, ↓pst, ↓pnc, ↓pbo, ↓puo, ↓pcv, ↓pmf, ↓pms, ↓psl, ↓pfa, ↓pfd, ↓pia, ↓pix, ↓pex, ↓pbi, ↓pgd, ↓aop_build, ↓reduceIte, Nat.reduceEqDiff, Nat.reduceAdd, Nat.reduceMul, Nat.reduceSub, Nat.reduceLT, Nat.reduceLeDiff, reduceCtorEq, Int.reduceToNat, Int.natCast_zero, Int.natCast_add, Int.cast_ofNat_Int, Int.zero_add, Int.natCast_one, Int.reduceAdd]
      · try simp (disch := omega) only [push_cast, ↓omv, ↓oas, ↓opk, ↓oal, ↓obx, ↓obd, ↓obs, ↓old, ↓ost, ↓onc, ↓obo, ↓ouo, ↓ocv, ↓omf, ↓oms, ↓osl, ↓ofa, ↓ofd, ↓oia, ↓oix, ↓oex, ↓obi, ↓ogd, ↓pmv, ↓pas, ↓ppk, ↓pal, ↓pbx, ↓pbd, ↓pbs, ↓pld, ↓pst, ↓pnc, ↓pbo, ↓puo, ↓pcv, ↓pmf, ↓pms, ↓psl, ↓pfa, ↓pfd, ↓pia, ↓pix, ↓pex, ↓pbi, ↓pgd, ↓aop_build, ↓reduceIte, Nat.reduceEqDiff, Nat.reduceAdd, Nat.reduceMul, Nat.reduceSub, Nat.reduceLT, Nat.reduceLeDiff, reduceCtorEq, Int.reduceToNat]
    · have c4 : AFun Try.prog 27 [bytesA b, i64 (at_ + nm b (at_ + 4) 2)] (.tup [.p (.fro (classR ((clsS b (at_ + nm b (at_ + 4) 2)).getD []))), boolA (clsS b (at_ + nm b (at_ + 4) 2)).isSome]) := rclasses_fn b hb hl (at_ + nm b (at_ + 4) 2) (by omega)
      have hq : clsAt b at_ (at_ + 4) = clsS b (at_ + nm b (at_ + 4) 2) := by unfold clsAt; rw [r3]; simp only []; rw [if_neg ho]
      cases hcl : clsS b (at_ + nm b (at_ + 4) 2) with
      | none =>
        rw [hcl] at c4 hq
        simp only [Option.getD_none, Option.isSome_none] at c4
        have hnone : res = none := by rw [← hres, hq]; try rfl
        subst hnone
        repeat' ((first
    | refine cs_seq ?_
    | refine cs_reg (by rfl) (fun K Kp hK hKp => ?_)
    | refine cs_drw mixed (by rfl) (by kernel_rfl) (fun K hK => ?_)
    | (refine hK _ _ ?_; try clear hKp; try clear hK; try clear Kp; try clear K)
    | refine cs_cond ?_
    | refine cs_ret (ret_fn ?_)
    | refine cs_scope ?_
    | refine cs_label ?_
    | refine cs_block ?_
    | refine cs_skip ?_
    | refine cs_exit ?_
    | ((first | refine grdO_dec (fun hp => ?_) (fun hp => ?_) | refine grdO_nd (fun hp => ?_) (fun hp => ?_) | refine grdO_nb (fun hp => ?_) (fun hp => ?_) | refine grdO_b (fun hp => ?_) (fun hp => ?_) | refine grdP_dec (fun hp => ?_) (fun hp => ?_) | refine grdP_nd (fun hp => ?_) (fun hp => ?_) | refine grdP_nb (fun hp => ?_) (fun hp => ?_) | refine grdP_b (fun hp => ?_) (fun hp => ?_) | refine condK_d (fun hp => ?_) (fun hp => ?_) | refine condK_nd (fun hp => ?_) (fun hp => ?_) | refine condK_nb (fun hp => ?_) (fun hp => ?_) | refine condK_b (fun hp => ?_) (fun hp => ?_)) <;> first | (exfalso; omega; done) | skip)
    | (refine regO_call rfl ?_; refine CallK.fn (c3) (by simp only [push_cast]) rfl (by simp only [push_cast, and_self]) (by simp only [push_cast, and_self]) (by simp only [push_cast, ↓reduceIte, Nat.reduceEqDiff, Nat.reduceAdd]) ?_)
    | (refine regO_call rfl ?_; refine CallK.fn (c4) (by simp only [push_cast]) rfl (by simp only [push_cast, and_self]) (by simp only [push_cast, and_self]) (by simp only [push_cast, ↓reduceIte, Nat.reduceEqDiff, Nat.reduceAdd]) ?_)
    | (with_reducible refine And.intro ?_ ?_; focus (first | omega | (constructor <;> omega) | (have hbits : IntKind.i64.bits = 64 := rfl; omega) | (simp [Int.natCast_zero, Int.natCast_one, Int.mul_zero, Int.mul_one, Int.add_zero]; done) | (simp [Int.natCast_zero, Int.natCast_one, Int.mul_zero, Int.mul_one, Int.add_zero]; omega)))) <;> try simp (disch := omega) only [push_cast, ↓omv, ↓oas, ↓opk, ↓oal, ↓obx, ↓obd, ↓obs, ↓old, ↓ost, ↓onc, ↓obo, ↓ouo, ↓ocv, ↓omf, ↓oms, ↓osl, ↓ofa, ↓ofd, ↓oia, ↓oix, ↓oex, ↓obi, ↓ogd, ↓pmv, ↓pas, ↓ppk, ↓pal, ↓pbx, ↓pbd, ↓pbs, ↓pld, ↓pst, ↓pnc, ↓pbo, ↓puo, ↓pcv, ↓pmf, ↓pms, ↓psl, ↓pfa, ↓pfd, ↓pia, ↓pix, ↓pex, ↓pbi, ↓pgd, ↓aop_build, ↓reduceIte, Nat.reduceEqDiff, Nat.reduceAdd, Nat.reduceMul, Nat.reduceSub, Nat.reduceLT, Nat.reduceLeDiff, reduceCtorEq, Int.reduceToNat, Int.natCast_zero, Int.natCast_one, Int.mul_zero, Int.mul_one, Int.add_zero])
        refine cs_ret ?_
        try simp (disch := omega) only [push_cast, ↓omv, ↓oas, ↓opk, ↓oal, ↓obx, ↓obd, ↓obs, ↓old, ↓ost, ↓onc, ↓obo, ↓ouo, ↓ocv, ↓omf, ↓oms, ↓osl, ↓ofa, ↓ofd, ↓oia, ↓oix, ↓oex, ↓obi, ↓ogd, ↓pmv, ↓pas, ↓ppk, ↓pal, ↓pbx, ↓pbd, ↓pbs, ↓pld, ↓pst, ↓pnc, ↓pbo, ↓puo, ↓pcv, ↓pmf, ↓pms, ↓psl, ↓pfa, ↓pfd, ↓pia, ↓pix, ↓pex, ↓pbi, ↓pgd, ↓aop_build, ↓reduceIte, Nat.reduceEqDiff, Nat.reduceAdd, Nat.reduceMul, Nat.reduceSub, Nat.reduceLT, Nat.reduceLeDiff, reduceCtorEq, Int.reduceToNat]
        refine ret_fn ?_
        exact ⟨rfl, gdA_ids _⟩
      | some l =>
        rw [hcl] at c4 hq
        simp only [Option.getD_some, Option.isSome_some] at c4
        repeat' ((first
    | refine cs_seq ?_
    | refine cs_reg (by rfl) (fun K Kp hK hKp => ?_)
    | refine cs_drw mixed (by rfl) (by kernel_rfl) (fun K hK => ?_)
    | (refine hK _ _ ?_; try clear hKp; try clear hK; try clear Kp; try clear K)
    | refine cs_cond ?_
    | refine cs_ret (ret_fn ?_)
    | refine cs_scope ?_
    | refine cs_label ?_
    | refine cs_block ?_
    | refine cs_skip ?_
    | refine cs_exit ?_
    | ((first | refine grdO_dec (fun hp => ?_) (fun hp => ?_) | refine grdO_nd (fun hp => ?_) (fun hp => ?_) | refine grdO_nb (fun hp => ?_) (fun hp => ?_) | refine grdO_b (fun hp => ?_) (fun hp => ?_) | refine grdP_dec (fun hp => ?_) (fun hp => ?_) | refine grdP_nd (fun hp => ?_) (fun hp => ?_) | refine grdP_nb (fun hp => ?_) (fun hp => ?_) | refine grdP_b (fun hp => ?_) (fun hp => ?_) | refine condK_d (fun hp => ?_) (fun hp => ?_) | refine condK_nd (fun hp => ?_) (fun hp => ?_) | refine condK_nb (fun hp => ?_) (fun hp => ?_) | refine condK_b (fun hp => ?_) (fun hp => ?_)) <;> first | (exfalso; omega; done) | skip)
    | (refine regO_call rfl ?_; refine CallK.fn (c3) (by simp only [push_cast]) rfl (by simp only [push_cast, and_self]) (by simp only [push_cast, and_self]) (by simp only [push_cast, ↓reduceIte, Nat.reduceEqDiff, Nat.reduceAdd]) ?_)
    | (refine regO_call rfl ?_; refine CallK.fn (c4) (by simp only [push_cast]) rfl (by simp only [push_cast, and_self]) (by simp only [push_cast, and_self]) (by simp only [push_cast, ↓reduceIte, Nat.reduceEqDiff, Nat.reduceAdd]) ?_)
    | (with_reducible refine And.intro ?_ ?_; focus (first | omega | (constructor <;> omega) | (have hbits : IntKind.i64.bits = 64 := rfl; omega) | (simp [Int.natCast_zero, Int.natCast_one, Int.mul_zero, Int.mul_one, Int.add_zero]; done) | (simp [Int.natCast_zero, Int.natCast_one, Int.mul_zero, Int.mul_one, Int.add_zero]; omega)))) <;> try simp (disch := omega) only [push_cast, ↓omv, ↓oas, ↓opk, ↓oal, ↓obx, ↓obd, ↓obs, ↓old, ↓ost, ↓onc, ↓obo, ↓ouo, ↓ocv, ↓omf, ↓oms, ↓osl, ↓ofa, ↓ofd, ↓oia, ↓oix, ↓oex, ↓obi, ↓ogd, ↓pmv, ↓pas, ↓ppk, ↓pal, ↓pbx, ↓pbd, ↓pbs, ↓pld, ↓pst, ↓pnc, ↓pbo, ↓puo, ↓pcv, ↓pmf, ↓pms, ↓psl, ↓pfa, ↓pfd, ↓pia, ↓pix, ↓pex, ↓pbi, ↓pgd, ↓aop_build, ↓reduceIte, Nat.reduceEqDiff, Nat.reduceAdd, Nat.reduceMul, Nat.reduceSub, Nat.reduceLT, Nat.reduceLeDiff, reduceCtorEq, Int.reduceToNat, Int.natCast_zero, Int.natCast_one, Int.mul_zero, Int.mul_one, Int.add_zero])
        refine Again.intro (1, l, []) ⟨by simp, fun h => by simp at h, fun _ => hq, fun _ => rfl, fun h => by simp at h⟩ (by simp only []; omega) (ofL []) .ofL ?_ ?_
        · try simp (disch := omega) only [push_cast, ↓omv, ↓oas, ↓opk, ↓oal, ↓obx, ↓obd, ↓obs, ↓old, ↓ost, ↓onc, ↓obo, ↓ouo, ↓ocv, ↓omf, ↓oms, ↓osl, ↓ofa, ↓ofd, ↓oia, ↓oix, ↓oex, ↓obi, ↓ogd, ↓pmv, ↓pas, ↓ppk, ↓pal, ↓pbx, ↓pbd, ↓pbs, ↓pld, ↓pst, ↓pnc, ↓pbo, ↓puo, ↓pcv, ↓pmf, ↓pms, ↓psl, ↓pfa, ↓pfd, ↓pia, ↓pix, ↓pex, ↓pbi, ↓pgd, ↓aop_build, ↓reduceIte, Nat.reduceEqDiff, Nat.reduceAdd, Nat.reduceMul, Nat.reduceSub, Nat.reduceLT, Nat.reduceLeDiff, reduceCtorEq, Int.reduceToNat, Int.natCast_zero, Int.natCast_add, Int.cast_ofNat_Int, Int.zero_add, Int.natCast_one, Int.reduceAdd]
        · try simp (disch := omega) only [push_cast, ↓omv, ↓oas, ↓opk, ↓oal, ↓obx, ↓obd, ↓obs, ↓old, ↓ost, ↓onc, ↓obo, ↓ouo, ↓ocv, ↓omf, ↓oms, ↓osl, ↓ofa, ↓ofd, ↓oia, ↓oix, ↓oex, ↓obi, ↓ogd, ↓pmv, ↓pas, ↓ppk, ↓pal, ↓pbx, ↓pbd, ↓pbs, ↓pld, ↓pst, ↓pnc, ↓pbo, ↓puo, ↓pcv, ↓pmf, ↓pms, ↓psl, ↓pfa, ↓pfd, ↓pia, ↓pix, ↓pex, ↓pbi, ↓pgd, ↓aop_build, ↓reduceIte, Nat.reduceEqDiff, Nat.reduceAdd, Nat.reduceMul, Nat.reduceSub, Nat.reduceLT, Nat.reduceLeDiff, reduceCtorEq, Int.reduceToNat]
  · subst hk
    have hy0 := hy1 rfl
    subst hy0
    have c3 := ru16_fn b hb (by omega) (at_ + 4 + 6)
    have e3 : ru2 b (at_ + 4 + 6) = nm b (at_ + 4 + 6) 2 := ru2_in (by omega) (by omega)
    have t3 := nm2 hb (a := at_ + 4 + 6) (by omega) (by omega)
    have r3 : rd b (at_ + 4 + 6) 2 = some (nm b (at_ + 4 + 6) 2) := by
      unfold rd nm; rw [if_pos (by omega)]
    rw [e3] at c3
    by_cases ho : nm b (at_ + 4 + 6) 2 = 0
    · have hq : clsAt b at_ (at_ + 4 + 6) = some [] := by unfold clsAt; rw [r3]; simp only []; rw [if_pos ho]
      rw [ho] at c3
      repeat' ((first
    | refine cs_seq ?_
    | refine cs_reg (by rfl) (fun K Kp hK hKp => ?_)
    | refine cs_drw mixed (by rfl) (by kernel_rfl) (fun K hK => ?_)
    | (refine hK _ _ ?_; try clear hKp; try clear hK; try clear Kp; try clear K)
    | refine cs_cond ?_
    | refine cs_ret (ret_fn ?_)
    | refine cs_scope ?_
    | refine cs_label ?_
    | refine cs_block ?_
    | refine cs_skip ?_
    | refine cs_exit ?_
    | ((first | refine grdO_dec (fun hp => ?_) (fun hp => ?_) | refine grdO_nd (fun hp => ?_) (fun hp => ?_) | refine grdO_nb (fun hp => ?_) (fun hp => ?_) | refine grdO_b (fun hp => ?_) (fun hp => ?_) | refine grdP_dec (fun hp => ?_) (fun hp => ?_) | refine grdP_nd (fun hp => ?_) (fun hp => ?_) | refine grdP_nb (fun hp => ?_) (fun hp => ?_) | refine grdP_b (fun hp => ?_) (fun hp => ?_) | refine condK_d (fun hp => ?_) (fun hp => ?_) | refine condK_nd (fun hp => ?_) (fun hp => ?_) | refine condK_nb (fun hp => ?_) (fun hp => ?_) | refine condK_b (fun hp => ?_) (fun hp => ?_)) <;> first | (exfalso; omega; done) | skip)
    | (refine regO_call rfl ?_; refine CallK.fn (c3) (by simp only [push_cast]) rfl (by simp only [push_cast, and_self]) (by simp only [push_cast, and_self]) (by simp only [push_cast, ↓reduceIte, Nat.reduceEqDiff, Nat.reduceAdd]) ?_)
    | (with_reducible refine And.intro ?_ ?_; focus (first | omega | (constructor <;> omega) | (have hbits : IntKind.i64.bits = 64 := rfl; omega) | (simp [Int.natCast_zero, Int.natCast_one, Int.mul_zero, Int.mul_one, Int.add_zero]; done) | (simp [Int.natCast_zero, Int.natCast_one, Int.mul_zero, Int.mul_one, Int.add_zero]; omega)))) <;> try simp (disch := omega) only [push_cast, ↓omv, ↓oas, ↓opk, ↓oal, ↓obx, ↓obd, ↓obs, ↓old, ↓ost, ↓onc, ↓obo, ↓ouo, ↓ocv, ↓omf, ↓oms, ↓osl, ↓ofa, ↓ofd, ↓oia, ↓oix, ↓oex, ↓obi, ↓ogd, ↓pmv, ↓pas, ↓ppk, ↓pal, ↓pbx, ↓pbd, ↓pbs, ↓pld, ↓pst, ↓pnc, ↓pbo, ↓puo, ↓pcv, ↓pmf, ↓pms, ↓psl, ↓pfa, ↓pfd, ↓pia, ↓pix, ↓pex, ↓pbi, ↓pgd, ↓aop_build, ↓reduceIte, Nat.reduceEqDiff, Nat.reduceAdd, Nat.reduceMul, Nat.reduceSub, Nat.reduceLT, Nat.reduceLeDiff, reduceCtorEq, Int.reduceToNat, Int.natCast_zero, Int.natCast_one, Int.mul_zero, Int.mul_one, Int.add_zero])
      refine Again.intro (2, x, []) ⟨by simp, fun h => by simp at h, fun _ => hx1 (by omega), fun h => by simp at h, fun _ => hq⟩ (by simp only []; omega) (ofL []) .ofL ?_ ?_
      · try simp (disch := omega) only [push_cast, ↓omv, ↓oas, ↓opk, ↓oal, ↓obx, ↓obd, ↓obs, ↓old, ↓ost, ↓onc, ↓obo, ↓ouo, ↓ocv, ↓omf, ↓oms, ↓osl, ↓ofa, ↓ofd, ↓oia, ↓oix, ↓oex, ↓obi, ↓ogd, ↓pmv, ↓pas, ↓ppk, ↓pal, ↓pbx, ↓pbd, ↓pbs, ↓pld, ↓pst, ↓pnc, ↓pbo, ↓puo, ↓pcv, ↓pmf, ↓pms, ↓psl, ↓pfa, ↓pfd, ↓pia, ↓pix, ↓pex, ↓pbi, ↓pgd, ↓aop_build, ↓reduceIte, Nat.reduceEqDiff, Nat.reduceAdd, Nat.reduceMul, Nat.reduceSub, Nat.reduceLT, Nat.reduceLeDiff, reduceCtorEq, Int.reduceToNat, Int.natCast_zero, Int.natCast_add, Int.cast_ofNat_Int, Int.zero_add, Int.natCast_one, Int.reduceAdd]
      · try simp (disch := omega) only [push_cast, ↓omv, ↓oas, ↓opk, ↓oal, ↓obx, ↓obd, ↓obs, ↓old, ↓ost, ↓onc, ↓obo, ↓ouo, ↓ocv, ↓omf, ↓oms, ↓osl, ↓ofa, ↓ofd, ↓oia, ↓oix, ↓oex, ↓obi, ↓ogd, ↓pmv, ↓pas, ↓ppk, ↓pal, ↓pbx, ↓pbd, ↓pbs, ↓pld, ↓pst, ↓pnc, ↓pbo, ↓puo, ↓pcv, ↓pmf, ↓pms, ↓psl, ↓pfa, ↓pfd, ↓pia, ↓pix, ↓pex, ↓pbi, ↓pgd, ↓aop_build, ↓reduceIte, Nat.reduceEqDiff, Nat.reduceAdd, Nat.reduceMul, Nat.reduceSub, Nat.reduceLT, Nat.reduceLeDiff, reduceCtorEq, Int.reduceToNat]
    · have c4 : AFun Try.prog 27 [bytesA b, i64 (at_ + nm b (at_ + 4 + 6) 2)] (.tup [.p (.fro (classR ((clsS b (at_ + nm b (at_ + 4 + 6) 2)).getD []))), boolA (clsS b (at_ + nm b (at_ + 4 + 6) 2)).isSome]) := rclasses_fn b hb hl (at_ + nm b (at_ + 4 + 6) 2) (by omega)
      have hq : clsAt b at_ (at_ + 4 + 6) = clsS b (at_ + nm b (at_ + 4 + 6) 2) := by unfold clsAt; rw [r3]; simp only []; rw [if_neg ho]
      cases hcl : clsS b (at_ + nm b (at_ + 4 + 6) 2) with
      | none =>
        rw [hcl] at c4 hq
        simp only [Option.getD_none, Option.isSome_none] at c4
        have hnone : res = none := by rw [← hres, hq]; try (cases clsAt b at_ (at_ + 4) <;> rfl)
        subst hnone
        repeat' ((first
    | refine cs_seq ?_
    | refine cs_reg (by rfl) (fun K Kp hK hKp => ?_)
    | refine cs_drw mixed (by rfl) (by kernel_rfl) (fun K hK => ?_)
    | (refine hK _ _ ?_; try clear hKp; try clear hK; try clear Kp; try clear K)
    | refine cs_cond ?_
    | refine cs_ret (ret_fn ?_)
    | refine cs_scope ?_
    | refine cs_label ?_
    | refine cs_block ?_
    | refine cs_skip ?_
    | refine cs_exit ?_
    | ((first | refine grdO_dec (fun hp => ?_) (fun hp => ?_) | refine grdO_nd (fun hp => ?_) (fun hp => ?_) | refine grdO_nb (fun hp => ?_) (fun hp => ?_) | refine grdO_b (fun hp => ?_) (fun hp => ?_) | refine grdP_dec (fun hp => ?_) (fun hp => ?_) | refine grdP_nd (fun hp => ?_) (fun hp => ?_) | refine grdP_nb (fun hp => ?_) (fun hp => ?_) | refine grdP_b (fun hp => ?_) (fun hp => ?_) | refine condK_d (fun hp => ?_) (fun hp => ?_) | refine condK_nd (fun hp => ?_) (fun hp => ?_) | refine condK_nb (fun hp => ?_) (fun hp => ?_) | refine condK_b (fun hp => ?_) (fun hp => ?_)) <;> first | (exfalso; omega; done) | skip)
    | (refine regO_call rfl ?_; refine CallK.fn (c3) (by simp only [push_cast]) rfl (by simp only [push_cast, and_self]) (by simp only [push_cast, and_self]) (by simp only [push_cast, ↓reduceIte, Nat.reduceEqDiff, Nat.reduceAdd]) ?_)
    | (refine regO_call rfl ?_; refine CallK.fn (c4) (by simp only [push_cast]) rfl (by simp only [push_cast, and_self]) (by simp only [push_cast, and_self]) (by simp only [push_cast, ↓reduceIte, Nat.reduceEqDiff, Nat.reduceAdd]) ?_)
    | (with_reducible refine And.intro ?_ ?_; focus (first | omega | (constructor <;> omega) | (have hbits : IntKind.i64.bits = 64 := rfl; omega) | (simp [Int.natCast_zero, Int.natCast_one, Int.mul_zero, Int.mul_one, Int.add_zero]; done) | (simp [Int.natCast_zero, Int.natCast_one, Int.mul_zero, Int.mul_one, Int.add_zero]; omega)))) <;> try simp (disch := omega) only [push_cast, ↓omv, ↓oas, ↓opk, ↓oal, ↓obx, ↓obd, ↓obs, ↓old, ↓ost, ↓onc, ↓obo, ↓ouo, ↓ocv, ↓omf, ↓oms, ↓osl, ↓ofa, ↓ofd, ↓oia, ↓oix, ↓oex, ↓obi, ↓ogd, ↓pmv, ↓pas, ↓ppk, ↓pal, ↓pbx, ↓pbd, ↓pbs, ↓pld, ↓pst, ↓pnc, ↓pbo, ↓puo, ↓pcv, ↓pmf, ↓pms, ↓psl, ↓pfa, ↓pfd, ↓pia, ↓pix, ↓pex, ↓pbi, ↓pgd, ↓aop_build, ↓reduceIte, Nat.reduceEqDiff, Nat.reduceAdd, Nat.reduceMul, Nat.reduceSub, Nat.reduceLT, Nat.reduceLeDiff, reduceCtorEq, Int.reduceToNat, Int.natCast_zero, Int.natCast_one, Int.mul_zero, Int.mul_one, Int.add_zero])
        refine cs_ret ?_
        try simp (disch := omega) only [push_cast, ↓omv, ↓oas, ↓opk, ↓oal, ↓obx, ↓obd, ↓obs, ↓old, ↓ost, ↓onc, ↓obo, ↓ouo, ↓ocv, ↓omf, ↓oms, ↓osl, ↓ofa, ↓ofd, ↓oia, ↓oix, ↓oex, ↓obi, ↓ogd, ↓pmv, ↓pas, ↓ppk, ↓pal, ↓pbx, ↓pbd, ↓pbs, ↓pld, ↓pst, ↓pnc, ↓pbo, ↓puo, ↓pcv, ↓pmf, ↓pms, ↓psl, ↓pfa, ↓pfd, ↓pia, ↓pix, ↓pex, ↓pbi, ↓pgd, ↓aop_build, ↓reduceIte, Nat.reduceEqDiff, Nat.reduceAdd, Nat.reduceMul, Nat.reduceSub, Nat.reduceLT, Nat.reduceLeDiff, reduceCtorEq, Int.reduceToNat]
        refine ret_fn ?_
        exact ⟨rfl, gdA_ids _⟩
      | some l =>
        rw [hcl] at c4 hq
        simp only [Option.getD_some, Option.isSome_some] at c4
        repeat' ((first
    | refine cs_seq ?_
    | refine cs_reg (by rfl) (fun K Kp hK hKp => ?_)
    | refine cs_drw mixed (by rfl) (by kernel_rfl) (fun K hK => ?_)
    | (refine hK _ _ ?_; try clear hKp; try clear hK; try clear Kp; try clear K)
    | refine cs_cond ?_
    | refine cs_ret (ret_fn ?_)
    | refine cs_scope ?_
    | refine cs_label ?_
    | refine cs_block ?_
    | refine cs_skip ?_
    | refine cs_exit ?_
    | ((first | refine grdO_dec (fun hp => ?_) (fun hp => ?_) | refine grdO_nd (fun hp => ?_) (fun hp => ?_) | refine grdO_nb (fun hp => ?_) (fun hp => ?_) | refine grdO_b (fun hp => ?_) (fun hp => ?_) | refine grdP_dec (fun hp => ?_) (fun hp => ?_) | refine grdP_nd (fun hp => ?_) (fun hp => ?_) | refine grdP_nb (fun hp => ?_) (fun hp => ?_) | refine grdP_b (fun hp => ?_) (fun hp => ?_) | refine condK_d (fun hp => ?_) (fun hp => ?_) | refine condK_nd (fun hp => ?_) (fun hp => ?_) | refine condK_nb (fun hp => ?_) (fun hp => ?_) | refine condK_b (fun hp => ?_) (fun hp => ?_)) <;> first | (exfalso; omega; done) | skip)
    | (refine regO_call rfl ?_; refine CallK.fn (c3) (by simp only [push_cast]) rfl (by simp only [push_cast, and_self]) (by simp only [push_cast, and_self]) (by simp only [push_cast, ↓reduceIte, Nat.reduceEqDiff, Nat.reduceAdd]) ?_)
    | (refine regO_call rfl ?_; refine CallK.fn (c4) (by simp only [push_cast]) rfl (by simp only [push_cast, and_self]) (by simp only [push_cast, and_self]) (by simp only [push_cast, ↓reduceIte, Nat.reduceEqDiff, Nat.reduceAdd]) ?_)
    | (with_reducible refine And.intro ?_ ?_; focus (first | omega | (constructor <;> omega) | (have hbits : IntKind.i64.bits = 64 := rfl; omega) | (simp [Int.natCast_zero, Int.natCast_one, Int.mul_zero, Int.mul_one, Int.add_zero]; done) | (simp [Int.natCast_zero, Int.natCast_one, Int.mul_zero, Int.mul_one, Int.add_zero]; omega)))) <;> try simp (disch := omega) only [push_cast, ↓omv, ↓oas, ↓opk, ↓oal, ↓obx, ↓obd, ↓obs, ↓old, ↓ost, ↓onc, ↓obo, ↓ouo, ↓ocv, ↓omf, ↓oms, ↓osl, ↓ofa, ↓ofd, ↓oia, ↓oix, ↓oex, ↓obi, ↓ogd, ↓pmv, ↓pas, ↓ppk, ↓pal, ↓pbx, ↓pbd, ↓pbs, ↓pld, ↓pst, ↓pnc, ↓pbo, ↓puo, ↓pcv, ↓pmf, ↓pms, ↓psl, ↓pfa, ↓pfd, ↓pia, ↓pix, ↓pex, ↓pbi, ↓pgd, ↓aop_build, ↓reduceIte, Nat.reduceEqDiff, Nat.reduceAdd, Nat.reduceMul, Nat.reduceSub, Nat.reduceLT, Nat.reduceLeDiff, reduceCtorEq, Int.reduceToNat, Int.natCast_zero, Int.natCast_one, Int.mul_zero, Int.mul_one, Int.add_zero])
        refine Again.intro (2, x, l) ⟨by simp, fun h => by simp at h, fun _ => hx1 (by omega), fun h => by simp at h, fun _ => hq⟩ (by simp only []; omega) (ofL []) .ofL ?_ ?_
        · try simp (disch := omega) only [push_cast, ↓omv, ↓oas, ↓opk, ↓oal, ↓obx, ↓obd, ↓obs, ↓old, ↓ost, ↓onc, ↓obo, ↓ouo, ↓ocv, ↓omf, ↓oms, ↓osl, ↓ofa, ↓ofd, ↓oia, ↓oix, ↓oex, ↓obi, ↓ogd, ↓pmv, ↓pas, ↓ppk, ↓pal, ↓pbx, ↓pbd, ↓pbs, ↓pld, ↓pst, ↓pnc, ↓pbo, ↓puo, ↓pcv, ↓pmf, ↓pms, ↓psl, ↓pfa, ↓pfd, ↓pia, ↓pix, ↓pex, ↓pbi, ↓pgd, ↓aop_build, ↓reduceIte, Nat.reduceEqDiff, Nat.reduceAdd, Nat.reduceMul, Nat.reduceSub, Nat.reduceLT, Nat.reduceLeDiff, reduceCtorEq, Int.reduceToNat, Int.natCast_zero, Int.natCast_add, Int.cast_ofNat_Int, Int.zero_add, Int.natCast_one, Int.reduceAdd]
        · try simp (disch := omega) only [push_cast, ↓omv, ↓oas, ↓opk, ↓oal, ↓obx, ↓obd, ↓obs, ↓old, ↓ost, ↓onc, ↓obo, ↓ouo, ↓ocv, ↓omf, ↓oms, ↓osl, ↓ofa, ↓ofd, ↓oia, ↓oix, ↓oex, ↓obi, ↓ogd, ↓pmv, ↓pas, ↓ppk, ↓pal, ↓pbx, ↓pbd, ↓pbs, ↓pld, ↓pst, ↓pnc, ↓pbo, ↓puo, ↓pcv, ↓pmf, ↓pms, ↓psl, ↓pfa, ↓pfd, ↓pia, ↓pix, ↓pex, ↓pbi, ↓pgd, ↓aop_build, ↓reduceIte, Nat.reduceEqDiff, Nat.reduceAdd, Nat.reduceMul, Nat.reduceSub, Nat.reduceLT, Nat.reduceLeDiff, reduceCtorEq, Int.reduceToNat]
  · subst hk
    rw [hx1 (by omega), hy2 rfl] at hres
    clear hx0 hx1 hy1 hy2 hk1
    have c3 := ru16_fn b hb (by omega) (at_ + 12)
    have t3 := rd2 hb (at_ + 12)
    unfold setsS at hres
    cases ho : rd b (at_ + 12) 2 with
    | none =>
      rw [ho] at hres
      rw [ru2_none ho] at c3
      have hr2 : res = none := hres.symm
      subst hr2
      repeat' ((first
    | refine cs_seq ?_
    | refine cs_reg (by rfl) (fun K Kp hK hKp => ?_)
    | refine cs_drw mixed (by rfl) (by kernel_rfl) (fun K hK => ?_)
    | (refine hK _ _ ?_; try clear hKp; try clear hK; try clear Kp; try clear K)
    | refine cs_cond ?_
    | refine cs_ret (ret_fn ?_)
    | refine cs_scope ?_
    | refine cs_label ?_
    | refine cs_block ?_
    | refine cs_skip ?_
    | refine cs_exit ?_
    | ((first | refine grdO_dec (fun hp => ?_) (fun hp => ?_) | refine grdO_nd (fun hp => ?_) (fun hp => ?_) | refine grdO_nb (fun hp => ?_) (fun hp => ?_) | refine grdO_b (fun hp => ?_) (fun hp => ?_) | refine grdP_dec (fun hp => ?_) (fun hp => ?_) | refine grdP_nd (fun hp => ?_) (fun hp => ?_) | refine grdP_nb (fun hp => ?_) (fun hp => ?_) | refine grdP_b (fun hp => ?_) (fun hp => ?_) | refine condK_d (fun hp => ?_) (fun hp => ?_) | refine condK_nd (fun hp => ?_) (fun hp => ?_) | refine condK_nb (fun hp => ?_) (fun hp => ?_) | refine condK_b (fun hp => ?_) (fun hp => ?_)) <;> first | (exfalso; omega; done) | skip)
    | (refine regO_call rfl ?_; refine CallK.fn (c3) (by simp only [push_cast]) rfl (by simp only [push_cast, and_self]) (by simp only [push_cast, and_self]) (by simp only [push_cast, ↓reduceIte, Nat.reduceEqDiff, Nat.reduceAdd]) ?_)
    | (with_reducible refine And.intro ?_ ?_; focus (first | omega | (constructor <;> omega) | (have hbits : IntKind.i64.bits = 64 := rfl; omega) | (simp []; done) | (simp []; omega)))) <;> try simp (disch := omega) only [push_cast, ↓omv, ↓oas, ↓opk, ↓oal, ↓obx, ↓obd, ↓obs, ↓old, ↓ost, ↓onc, ↓obo, ↓ouo, ↓ocv, ↓omf, ↓oms, ↓osl, ↓ofa, ↓ofd, ↓oia, ↓oix, ↓oex, ↓obi, ↓ogd, ↓pmv, ↓pas, ↓ppk, ↓pal, ↓pbx, ↓pbd, ↓pbs, ↓pld, ↓pst, ↓pnc, ↓pbo, ↓puo, ↓pcv, ↓pmf, ↓pms, ↓psl, ↓pfa, ↓pfd, ↓pia, ↓pix, ↓pex, ↓pbi, ↓pgd, ↓aop_build, ↓reduceIte, Nat.reduceEqDiff, Nat.reduceAdd, Nat.reduceMul, Nat.reduceSub, Nat.reduceLT, Nat.reduceLeDiff, reduceCtorEq, Int.reduceToNat])
      all_goals exact ⟨rfl, gdA_ids _⟩
    | some o =>
      rw [ho] at hres t3
      rw [ru2_some ho] at c3
      simp only [Option.getD_some] at hres t3
      by_cases h0 : o = 0
      · rw [if_pos h0] at hres
        have hr2 : res = some ⟨x, y, []⟩ := hres.symm
        subst hr2
        repeat' ((first
    | refine cs_seq ?_
    | refine cs_reg (by rfl) (fun K Kp hK hKp => ?_)
    | refine cs_drw mixed (by rfl) (by kernel_rfl) (fun K hK => ?_)
    | (refine hK _ _ ?_; try clear hKp; try clear hK; try clear Kp; try clear K)
    | refine cs_cond ?_
    | refine cs_ret (ret_fn ?_)
    | refine cs_scope ?_
    | refine cs_label ?_
    | refine cs_block ?_
    | refine cs_skip ?_
    | refine cs_exit ?_
    | ((first | refine grdO_dec (fun hp => ?_) (fun hp => ?_) | refine grdO_nd (fun hp => ?_) (fun hp => ?_) | refine grdO_nb (fun hp => ?_) (fun hp => ?_) | refine grdO_b (fun hp => ?_) (fun hp => ?_) | refine grdP_dec (fun hp => ?_) (fun hp => ?_) | refine grdP_nd (fun hp => ?_) (fun hp => ?_) | refine grdP_nb (fun hp => ?_) (fun hp => ?_) | refine grdP_b (fun hp => ?_) (fun hp => ?_) | refine condK_d (fun hp => ?_) (fun hp => ?_) | refine condK_nd (fun hp => ?_) (fun hp => ?_) | refine condK_nb (fun hp => ?_) (fun hp => ?_) | refine condK_b (fun hp => ?_) (fun hp => ?_)) <;> first | (exfalso; omega; done) | skip)
    | (refine regO_call rfl ?_; refine CallK.fn (c3) (by simp only [push_cast]) rfl (by simp only [push_cast, and_self]) (by simp only [push_cast, and_self]) (by simp only [push_cast, ↓reduceIte, Nat.reduceEqDiff, Nat.reduceAdd]) ?_)
    | (with_reducible refine And.intro ?_ ?_; focus (first | omega | (constructor <;> omega) | (have hbits : IntKind.i64.bits = 64 := rfl; omega) | (simp []; done) | (simp []; omega)))) <;> try simp (disch := omega) only [push_cast, ↓omv, ↓oas, ↓opk, ↓oal, ↓obx, ↓obd, ↓obs, ↓old, ↓ost, ↓onc, ↓obo, ↓ouo, ↓ocv, ↓omf, ↓oms, ↓osl, ↓ofa, ↓ofd, ↓oia, ↓oix, ↓oex, ↓obi, ↓ogd, ↓pmv, ↓pas, ↓ppk, ↓pal, ↓pbx, ↓pbd, ↓pbs, ↓pld, ↓pst, ↓pnc, ↓pbo, ↓puo, ↓pcv, ↓pmf, ↓pms, ↓psl, ↓pfa, ↓pfd, ↓pia, ↓pix, ↓pex, ↓pbi, ↓pgd, ↓aop_build, ↓reduceIte, Nat.reduceEqDiff, Nat.reduceAdd, Nat.reduceMul, Nat.reduceSub, Nat.reduceLT, Nat.reduceLeDiff, reduceCtorEq, Int.reduceToNat])
        all_goals exact ⟨rfl, gdA_ids _⟩
      · rw [if_neg h0] at hres
        have c4 := ru16_fn b hb (by omega) (at_ + o + 2)
        have c5 := ru16_fn b hb (by omega) (at_ + o)
        have t4 := ru2_b hb (at_ + o + 2)
        have t5 := ru2_b hb (at_ + o)
        by_cases hbad : ru2 b (at_ + o) ≠ 1 ∨ ru2 b (at_ + o + 2) < 0 ∨ ru2 b (at_ + o + 2) > 64
        · have hno : (rd b (at_ + o) 2).getD 0 ≠ 1 ∨ (rd b (at_ + o + 2) 2).getD 0 > 64 ∨ ¬ at_ + o + 4 + (rd b (at_ + o + 2) 2).getD 0 * 4 ≤ b.length := by
            cases e1 : rd b (at_ + o) 2 with
            | none => left; simp
            | some f =>
              rw [ru2_some e1] at hbad
              have w1 := rd_within e1
              simp only [Option.getD_some]
              cases e2 : rd b (at_ + o + 2) 2 with
              | none =>
                right; right
                simp only [Option.getD_none]
                intro h
                unfold rd at e2
                rw [if_pos (by omega)] at e2
                cases e2
              | some n =>
                rw [ru2_some e2] at hbad
                have := rd2 hb (at_ + o + 2)
                rw [e2] at this
                simp only [Option.getD_some] at this ⊢
                omega
          rw [if_pos hno] at hres
          have hr2 : res = none := hres.symm
          subst hr2
          repeat' ((first
    | refine cs_seq ?_
    | refine cs_reg (by rfl) (fun K Kp hK hKp => ?_)
    | refine cs_drw mixed (by rfl) (by kernel_rfl) (fun K hK => ?_)
    | (refine hK _ _ ?_; try clear hKp; try clear hK; try clear Kp; try clear K)
    | refine cs_cond ?_
    | refine cs_ret (ret_fn ?_)
    | refine cs_scope ?_
    | refine cs_label ?_
    | refine cs_block ?_
    | refine cs_skip ?_
    | refine cs_exit ?_
    | ((first | refine grdO_dec (fun hp => ?_) (fun hp => ?_) | refine grdO_nd (fun hp => ?_) (fun hp => ?_) | refine grdO_nb (fun hp => ?_) (fun hp => ?_) | refine grdO_b (fun hp => ?_) (fun hp => ?_) | refine grdP_dec (fun hp => ?_) (fun hp => ?_) | refine grdP_nd (fun hp => ?_) (fun hp => ?_) | refine grdP_nb (fun hp => ?_) (fun hp => ?_) | refine grdP_b (fun hp => ?_) (fun hp => ?_) | refine condK_d (fun hp => ?_) (fun hp => ?_) | refine condK_nd (fun hp => ?_) (fun hp => ?_) | refine condK_nb (fun hp => ?_) (fun hp => ?_) | refine condK_b (fun hp => ?_) (fun hp => ?_)) <;> first | (exfalso; omega; done) | skip)
    | (refine regO_call rfl ?_; refine CallK.fn (c3) (by simp only [push_cast]) rfl (by simp only [push_cast, and_self]) (by simp only [push_cast, and_self]) (by simp only [push_cast, ↓reduceIte, Nat.reduceEqDiff, Nat.reduceAdd]) ?_)
    | (refine regO_call rfl ?_; refine CallK.fn (c4) (by simp only [push_cast]) rfl (by simp only [push_cast, and_self]) (by simp only [push_cast, and_self]) (by simp only [push_cast, ↓reduceIte, Nat.reduceEqDiff, Nat.reduceAdd]) ?_)
    | (refine regO_call rfl ?_; refine CallK.fn (c5) (by simp only [push_cast]) rfl (by simp only [push_cast, and_self]) (by simp only [push_cast, and_self]) (by simp only [push_cast, ↓reduceIte, Nat.reduceEqDiff, Nat.reduceAdd]) ?_)
    | (with_reducible refine And.intro ?_ ?_; focus (first | omega | (constructor <;> omega) | (have hbits : IntKind.i64.bits = 64 := rfl; omega) | (simp []; done) | (simp []; omega)))) <;> try simp (disch := omega) only [push_cast, ↓omv, ↓oas, ↓opk, ↓oal, ↓obx, ↓obd, ↓obs, ↓old, ↓ost, ↓onc, ↓obo, ↓ouo, ↓ocv, ↓omf, ↓oms, ↓osl, ↓ofa, ↓ofd, ↓oia, ↓oix, ↓oex, ↓obi, ↓ogd, ↓pmv, ↓pas, ↓ppk, ↓pal, ↓pbx, ↓pbd, ↓pbs, ↓pld, ↓pst, ↓pnc, ↓pbo, ↓puo, ↓pcv, ↓pmf, ↓pms, ↓psl, ↓pfa, ↓pfd, ↓pia, ↓pix, ↓pex, ↓pbi, ↓pgd, ↓aop_build, ↓reduceIte, Nat.reduceEqDiff, Nat.reduceAdd, Nat.reduceMul, Nat.reduceSub, Nat.reduceLT, Nat.reduceLeDiff, reduceCtorEq, Int.reduceToNat])
          all_goals exact ⟨rfl, gdA_ids _⟩
        · have hf : ru2 b (at_ + o) = 1 := by omega
          obtain ⟨n, hn⟩ : ∃ n : Nat, ru2 b (at_ + o + 2) = n := ⟨(ru2 b (at_ + o + 2)).toNat, by omega⟩
          rw [hf] at c5
          rw [hn] at c4 hbad
          have e1 : rd b (at_ + o) 2 = some 1 := by
            cases e1 : rd b (at_ + o) 2 with
            | none => rw [ru2_none e1] at hf; cases hf
            | some f => rw [ru2_some e1] at hf; rw [hf]
          have e2 : rd b (at_ + o + 2) 2 = some (n : Int) := by
            cases e2 : rd b (at_ + o + 2) 2 with
            | none => rw [ru2_none e2] at hn; omega
            | some f => rw [ru2_some e2] at hn; rw [hn]
          have w2 := rd_within e2
          have hz : setQ b (at_ + o) n 0 [] = (if (rd b (at_ + o) 2).getD 0 ≠ 1 ∨ (rd b (at_ + o + 2) 2).getD 0 > 64 ∨ ¬ at_ + o + 4 + (rd b (at_ + o + 2) 2).getD 0 * 4 ≤ b.length then none
              else setL b (at_ + o) ((rd b (at_ + o + 2) 2).getD 0).toNat 0 []) := by
            rw [e1, e2]
            simp only [Option.getD_some, Int.toNat_natCast]
            by_cases hin : at_ + o + 4 + (n : Int) * 4 ≤ b.length
            · rw [if_neg (by omega)]
              exact setQ_in hb (by omega) hin n 0 [] (by omega)
            · rw [if_pos (.inr (.inr hin))]
              exact setQ_out (N := n) (by omega) hin n 0 [] (by omega) (by omega)
          rw [← hz] at hres
          clear hz
          repeat' ((first
    | refine cs_seq ?_
    | refine cs_reg (by rfl) (fun K Kp hK hKp => ?_)
    | refine cs_drw mixed (by rfl) (by kernel_rfl) (fun K hK => ?_)
    | (refine hK _ _ ?_; try clear hKp; try clear hK; try clear Kp; try clear K)
    | refine cs_cond ?_
    | refine cs_ret (ret_fn ?_)
    | refine cs_scope ?_
    | refine cs_label ?_
    | refine cs_block ?_
    | refine cs_skip ?_
    | refine cs_exit ?_
    | ((first | refine grdO_dec (fun hp => ?_) (fun hp => ?_) | refine grdO_nd (fun hp => ?_) (fun hp => ?_) | refine grdO_nb (fun hp => ?_) (fun hp => ?_) | refine grdO_b (fun hp => ?_) (fun hp => ?_) | refine grdP_dec (fun hp => ?_) (fun hp => ?_) | refine grdP_nd (fun hp => ?_) (fun hp => ?_) | refine grdP_nb (fun hp => ?_) (fun hp => ?_) | refine grdP_b (fun hp => ?_) (fun hp => ?_) | refine condK_d (fun hp => ?_) (fun hp => ?_) | refine condK_nd (fun hp => ?_) (fun hp => ?_) | refine condK_nb (fun hp => ?_) (fun hp => ?_) | refine condK_b (fun hp => ?_) (fun hp => ?_)) <;> first | (exfalso; omega; done) | skip)
    | (refine regO_call rfl ?_; refine CallK.fn (c3) (by simp only [push_cast]) rfl (by simp only [push_cast, and_self]) (by simp only [push_cast, and_self]) (by simp only [push_cast, ↓reduceIte, Nat.reduceEqDiff, Nat.reduceAdd]) ?_)
    | (refine regO_call rfl ?_; refine CallK.fn (c4) (by simp only [push_cast]) rfl (by simp only [push_cast, and_self]) (by simp only [push_cast, and_self]) (by simp only [push_cast, ↓reduceIte, Nat.reduceEqDiff, Nat.reduceAdd]) ?_)
    | (refine regO_call rfl ?_; refine CallK.fn (c5) (by simp only [push_cast]) rfl (by simp only [push_cast, and_self]) (by simp only [push_cast, and_self]) (by simp only [push_cast, ↓reduceIte, Nat.reduceEqDiff, Nat.reduceAdd]) ?_)
    | (with_reducible refine And.intro ?_ ?_; focus (first | omega | (constructor <;> omega) | (have hbits : IntKind.i64.bits = 64 := rfl; omega) | (simp []; done) | (simp []; omega)))) <;> try simp (disch := omega) only [push_cast, ↓omv, ↓oas, ↓opk, ↓oal, ↓obx, ↓obd, ↓obs, ↓old, ↓ost, ↓onc, ↓obo, ↓ouo, ↓ocv, ↓omf, ↓oms, ↓osl, ↓ofa, ↓ofd, ↓oia, ↓oix, ↓oex, ↓obi, ↓ogd, ↓pmv, ↓pas, ↓ppk, ↓pal, ↓pbx, ↓pbd, ↓pbs, ↓pld, ↓pst, ↓pnc, ↓pbo, ↓puo, ↓pcv, ↓pmf, ↓pms, ↓psl, ↓pfa, ↓pfd, ↓pia, ↓pix, ↓pex, ↓pbi, ↓pgd, ↓aop_build, ↓reduceIte, Nat.reduceEqDiff, Nat.reduceAdd, Nat.reduceMul, Nat.reduceSub, Nat.reduceLT, Nat.reduceLeDiff, reduceCtorEq, Int.reduceToNat])
          refine cs_adopt_cell 2 2 37 1 rfl rfl ?_
          refine cs_lp (ι := Nat × List (List Spn)) (fun q => [(0, bytesA b), (1, i64 at_), (4, .ptr 0 0), (6, .ptr 1 0), (7, .ptr 2 0), (13, i64 o), (14, i64 n), (15, i64 q.1)])
            (fun q => [(0, .box 27 [.nil, .nil, .nil]), (1, .box 27 [.nil, .nil, .nil]), (2, .box 27 [.p (.fro (classR x)), .p (.fro (classR y)), .ref 3 q.2.length]), (3, .arr 37 1 (setR q.2))]) 4
            (fun q => q.1 ≤ n ∧ q.2.length ≤ q.1 ∧ bothS (some x) (some y) (setQ b (at_ + o) (n - q.1) q.1 q.2) = res) (fun q => n - q.1) (0, [])
            ⟨by simp, by simp, by simpa using hres⟩ ⟨ofL [(3, 38)], .ofL, ?_, ?_⟩ ?_
          · try simp (disch := omega) only [push_cast, ↓omv, ↓oas, ↓opk, ↓oal, ↓obx, ↓obd, ↓obs, ↓old, ↓ost, ↓onc, ↓obo, ↓ouo, ↓ocv, ↓omf, ↓oms, ↓osl, ↓ofa, ↓ofd, ↓oia, ↓oix, ↓oex, ↓obi, ↓ogd, ↓pmv, ↓pas, ↓ppk, ↓pal, ↓pbx, ↓pbd, ↓pbs, ↓pld, ↓pst, ↓pnc, ↓pbo, ↓puo, ↓pcv, ↓pmf, ↓pms, ↓psl, ↓pfa, ↓pfd, ↓pia, ↓pix, ↓pex, ↓pbi, ↓pgd, ↓aop_build, ↓reduceIte, Nat.reduceEqDiff, Nat.reduceAdd, Nat.reduceMul, Nat.reduceSub, Nat.reduceLT, Nat.reduceLeDiff, reduceCtorEq, Int.reduceToNat, Int.natCast_zero]
          · try simp (disch := omega) only [push_cast, ↓omv, ↓oas, ↓opk, ↓oal, ↓obx, ↓obd, ↓obs, ↓old, ↓ost, ↓onc, ↓obo, ↓ouo, ↓ocv, ↓omf, ↓oms, ↓osl, ↓ofa, ↓ofd, ↓oia, ↓oix, ↓oex, ↓obi, ↓ogd, ↓pmv, ↓pas, ↓ppk, ↓pal, ↓pbx, ↓pbd, ↓pbs, ↓pld, ↓pst, ↓pnc, ↓pbo, ↓puo, ↓pcv, ↓pmf, ↓pms, ↓psl, ↓pfa, ↓pfd, ↓pia, ↓pix, ↓pex, ↓pbi, ↓pgd, ↓aop_build, ↓reduceIte, Nat.reduceEqDiff, Nat.reduceAdd, Nat.reduceMul, Nat.reduceSub, Nat.reduceLT, Nat.reduceLeDiff, reduceCtorEq, Int.reduceToNat, List.set_cons_zero, List.set_cons_succ]
          rintro ⟨k, lk⟩ ⟨hk1, hk3, hk4⟩
          simp only [] at hk1 hk3 hk4
          by_cases hk : k < n
          · have c6 := ru32_fn b hb (by omega) (at_ + o + 4 + 4 * k)
            have t6 := ru4_b hb (at_ + o + 4 + 4 * k)
            rw [setQ_step hk] at hk4
            generalize ru4 b (at_ + o + 4 + 4 * k) = w at *
            by_cases hbig : w < 0 ∨ w > b.length
            · rw [if_pos hbig] at hk4
              have hr2 : res = none := hk4.symm
              subst hr2
              repeat' ((first
    | refine cs_seq ?_
    | refine cs_reg (by rfl) (fun K Kp hK hKp => ?_)
    | refine cs_drw mixed (by rfl) (by kernel_rfl) (fun K hK => ?_)
    | (refine hK _ _ ?_; try clear hKp; try clear hK; try clear Kp; try clear K)
    | refine cs_cond ?_
    | refine cs_ret (ret_fn ?_)
    | refine cs_scope ?_
    | refine cs_label ?_
    | refine cs_block ?_
    | refine cs_skip ?_
    | refine cs_exit ?_
    | ((first | refine grdO_dec (fun hp => ?_) (fun hp => ?_) | refine grdO_nd (fun hp => ?_) (fun hp => ?_) | refine grdO_nb (fun hp => ?_) (fun hp => ?_) | refine grdO_b (fun hp => ?_) (fun hp => ?_) | refine grdP_dec (fun hp => ?_) (fun hp => ?_) | refine grdP_nd (fun hp => ?_) (fun hp => ?_) | refine grdP_nb (fun hp => ?_) (fun hp => ?_) | refine grdP_b (fun hp => ?_) (fun hp => ?_) | refine condK_d (fun hp => ?_) (fun hp => ?_) | refine condK_nd (fun hp => ?_) (fun hp => ?_) | refine condK_nb (fun hp => ?_) (fun hp => ?_) | refine condK_b (fun hp => ?_) (fun hp => ?_)) <;> first | (exfalso; omega; done) | skip)
    | (refine regO_call rfl ?_; refine CallK.fn (c6) (by simp only [push_cast]) rfl (by simp only [push_cast, and_self]) (by simp only [push_cast, and_self]) (by simp only [push_cast, ↓reduceIte, Nat.reduceEqDiff, Nat.reduceAdd]) ?_)
    | (with_reducible refine And.intro ?_ ?_; focus (first | omega | (constructor <;> omega) | (have hbits : IntKind.i64.bits = 64 := rfl; omega) | (simp []; done) | (simp []; omega)))) <;> try simp (disch := omega) only [push_cast, ↓omv, ↓oas, ↓opk, ↓oal, ↓obx, ↓obd, ↓obs, ↓old, ↓ost, ↓onc, ↓obo, ↓ouo, ↓ocv, ↓omf, ↓oms, ↓osl, ↓ofa, ↓ofd, ↓oia, ↓oix, ↓oex, ↓obi, ↓ogd, ↓pmv, ↓pas, ↓ppk, ↓pal, ↓pbx, ↓pbd, ↓pbs, ↓pld, ↓pst, ↓pnc, ↓pbo, ↓puo, ↓pcv, ↓pmf, ↓pms, ↓psl, ↓pfa, ↓pfd, ↓pia, ↓pix, ↓pex, ↓pbi, ↓pgd, ↓aop_build, ↓reduceIte, Nat.reduceEqDiff, Nat.reduceAdd, Nat.reduceMul, Nat.reduceSub, Nat.reduceLT, Nat.reduceLeDiff, reduceCtorEq, Int.reduceToNat])
              all_goals
                refine cs_ret ?_
                try simp (disch := omega) only [push_cast, ↓omv, ↓oas, ↓opk, ↓oal, ↓obx, ↓obd, ↓obs, ↓old, ↓ost, ↓onc, ↓obo, ↓ouo, ↓ocv, ↓omf, ↓oms, ↓osl, ↓ofa, ↓ofd, ↓oia, ↓oix, ↓oex, ↓obi, ↓ogd, ↓pmv, ↓pas, ↓ppk, ↓pal, ↓pbx, ↓pbd, ↓pbs, ↓pld, ↓pst, ↓pnc, ↓pbo, ↓puo, ↓pcv, ↓pmf, ↓pms, ↓psl, ↓pfa, ↓pfd, ↓pia, ↓pix, ↓pex, ↓pbi, ↓pgd, ↓aop_build, ↓reduceIte, Nat.reduceEqDiff, Nat.reduceAdd, Nat.reduceMul, Nat.reduceSub, Nat.reduceLT, Nat.reduceLeDiff, reduceCtorEq, Int.reduceToNat]
                refine ret_fn ?_
                exact ⟨rfl, gdA_ids _⟩
            · rw [if_neg hbig] at hk4
              have c7 := rcover_fn b hb hl (at_ + o + w) (by omega)
              cases hcv : covS b (at_ + o + w) with
              | none =>
                rw [hcv] at c7 hk4
                have c7' : AFun Try.prog 28 [bytesA b, i64 (at_ + o + w)] (.tup [.p (.fro []), boolA false]) := c7
                have hr2 : res = none := hk4.symm
                subst hr2
                repeat' ((first
    | refine cs_seq ?_
    | refine cs_reg (by rfl) (fun K Kp hK hKp => ?_)
    | refine cs_drw mixed (by rfl) (by kernel_rfl) (fun K hK => ?_)
    | (refine hK _ _ ?_; try clear hKp; try clear hK; try clear Kp; try clear K)
    | refine cs_cond ?_
    | refine cs_ret (ret_fn ?_)
    | refine cs_scope ?_
    | refine cs_label ?_
    | refine cs_block ?_
    | refine cs_skip ?_
    | refine cs_exit ?_
    | ((first | refine grdO_dec (fun hp => ?_) (fun hp => ?_) | refine grdO_nd (fun hp => ?_) (fun hp => ?_) | refine grdO_nb (fun hp => ?_) (fun hp => ?_) | refine grdO_b (fun hp => ?_) (fun hp => ?_) | refine grdP_dec (fun hp => ?_) (fun hp => ?_) | refine grdP_nd (fun hp => ?_) (fun hp => ?_) | refine grdP_nb (fun hp => ?_) (fun hp => ?_) | refine grdP_b (fun hp => ?_) (fun hp => ?_) | refine condK_d (fun hp => ?_) (fun hp => ?_) | refine condK_nd (fun hp => ?_) (fun hp => ?_) | refine condK_nb (fun hp => ?_) (fun hp => ?_) | refine condK_b (fun hp => ?_) (fun hp => ?_)) <;> first | (exfalso; omega; done) | skip)
    | (refine regO_call rfl ?_; refine CallK.fn (c6) (by simp only [push_cast]) rfl (by simp only [push_cast, and_self]) (by simp only [push_cast, and_self]) (by simp only [push_cast, ↓reduceIte, Nat.reduceEqDiff, Nat.reduceAdd]) ?_)
    | (refine regO_call rfl ?_; refine CallK.fn (c7') (by simp only [push_cast]) rfl (by simp only [push_cast, and_self]) (by simp only [push_cast, and_self]) (by simp only [push_cast, ↓reduceIte, Nat.reduceEqDiff, Nat.reduceAdd]) ?_)
    | (with_reducible refine And.intro ?_ ?_; focus (first | omega | (constructor <;> omega) | (have hbits : IntKind.i64.bits = 64 := rfl; omega) | (simp []; done) | (simp []; omega)))) <;> try simp (disch := omega) only [push_cast, ↓omv, ↓oas, ↓opk, ↓oal, ↓obx, ↓obd, ↓obs, ↓old, ↓ost, ↓onc, ↓obo, ↓ouo, ↓ocv, ↓omf, ↓oms, ↓osl, ↓ofa, ↓ofd, ↓oia, ↓oix, ↓oex, ↓obi, ↓ogd, ↓pmv, ↓pas, ↓ppk, ↓pal, ↓pbx, ↓pbd, ↓pbs, ↓pld, ↓pst, ↓pnc, ↓pbo, ↓puo, ↓pcv, ↓pmf, ↓pms, ↓psl, ↓pfa, ↓pfd, ↓pia, ↓pix, ↓pex, ↓pbi, ↓pgd, ↓aop_build, ↓reduceIte, Nat.reduceEqDiff, Nat.reduceAdd, Nat.reduceMul, Nat.reduceSub, Nat.reduceLT, Nat.reduceLeDiff, reduceCtorEq, Int.reduceToNat])
                all_goals
                  refine cs_ret ?_
                  try simp (disch := omega) only [push_cast, ↓omv, ↓oas, ↓opk, ↓oal, ↓obx, ↓obd, ↓obs, ↓old, ↓ost, ↓onc, ↓obo, ↓ouo, ↓ocv, ↓omf, ↓oms, ↓osl, ↓ofa, ↓ofd, ↓oia, ↓oix, ↓oex, ↓obi, ↓ogd, ↓pmv, ↓pas, ↓ppk, ↓pal, ↓pbx, ↓pbd, ↓pbs, ↓pld, ↓pst, ↓pnc, ↓pbo, ↓puo, ↓pcv, ↓pmf, ↓pms, ↓psl, ↓pfa, ↓pfd, ↓pia, ↓pix, ↓pex, ↓pbi, ↓pgd, ↓aop_build, ↓reduceIte, Nat.reduceEqDiff, Nat.reduceAdd, Nat.reduceMul, Nat.reduceSub, Nat.reduceLT, Nat.reduceLeDiff, reduceCtorEq, Int.reduceToNat]
                  refine ret_fn ?_
                  exact ⟨rfl, gdA_ids _⟩
              | some s =>
                rw [hcv] at c7 hk4
                have c7' : AFun Try.prog 28 [bytesA b, i64 (at_ + o + w)] (.tup [.p (.fro (spanR s)), boolA true]) := c7
                simp only [] at hk4
                repeat' ((first
    | refine cs_seq ?_
    | refine cs_reg (by rfl) (fun K Kp hK hKp => ?_)
    | refine cs_drw mixed (by rfl) (by kernel_rfl) (fun K hK => ?_)
    | (refine hK _ _ ?_; try clear hKp; try clear hK; try clear Kp; try clear K)
    | refine cs_cond ?_
    | refine cs_ret (ret_fn ?_)
    | refine cs_scope ?_
    | refine cs_label ?_
    | refine cs_block ?_
    | refine cs_skip ?_
    | refine cs_exit ?_
    | ((first | refine grdO_dec (fun hp => ?_) (fun hp => ?_) | refine grdO_nd (fun hp => ?_) (fun hp => ?_) | refine grdO_nb (fun hp => ?_) (fun hp => ?_) | refine grdO_b (fun hp => ?_) (fun hp => ?_) | refine grdP_dec (fun hp => ?_) (fun hp => ?_) | refine grdP_nd (fun hp => ?_) (fun hp => ?_) | refine grdP_nb (fun hp => ?_) (fun hp => ?_) | refine grdP_b (fun hp => ?_) (fun hp => ?_) | refine condK_d (fun hp => ?_) (fun hp => ?_) | refine condK_nd (fun hp => ?_) (fun hp => ?_) | refine condK_nb (fun hp => ?_) (fun hp => ?_) | refine condK_b (fun hp => ?_) (fun hp => ?_)) <;> first | (exfalso; omega; done) | skip)
    | (refine regO_call rfl ?_; refine CallK.fn (c6) (by simp only [push_cast]) rfl (by simp only [push_cast, and_self]) (by simp only [push_cast, and_self]) (by simp only [push_cast, ↓reduceIte, Nat.reduceEqDiff, Nat.reduceAdd]) ?_)
    | (refine regO_call rfl ?_; refine CallK.fn (c7') (by simp only [push_cast]) rfl (by simp only [push_cast, and_self]) (by simp only [push_cast, and_self]) (by simp only [push_cast, ↓reduceIte, Nat.reduceEqDiff, Nat.reduceAdd]) ?_)
    | (with_reducible refine And.intro ?_ ?_; focus (first | omega | (constructor <;> omega) | (have hbits : IntKind.i64.bits = 64 := rfl; omega) | (simp [maxLen, List.set_cons_zero, List.set_cons_succ]; done) | (simp [maxLen, List.set_cons_zero, List.set_cons_succ]; omega)))) <;> try simp (disch := omega) only [push_cast, ↓omv, ↓oas, ↓opk, ↓oal, ↓obx, ↓obd, ↓obs, ↓old, ↓ost, ↓onc, ↓obo, ↓ouo, ↓ocv, ↓omf, ↓oms, ↓osl, ↓ofa, ↓ofd, ↓oia, ↓oix, ↓oex, ↓obi, ↓ogd, ↓pmv, ↓pas, ↓ppk, ↓pal, ↓pbx, ↓pbd, ↓pbs, ↓pld, ↓pst, ↓pnc, ↓pbo, ↓puo, ↓pcv, ↓pmf, ↓pms, ↓psl, ↓pfa, ↓pfd, ↓pia, ↓pix, ↓pex, ↓pbi, ↓pgd, ↓aop_build, ↓reduceIte, Nat.reduceEqDiff, Nat.reduceAdd, Nat.reduceMul, Nat.reduceSub, Nat.reduceLT, Nat.reduceLeDiff, reduceCtorEq, Int.reduceToNat, maxLen, List.set_cons_zero, List.set_cons_succ])
                refine Again.intro (k + 1, lk ++ [s]) ⟨?_, ?_, hk4⟩ ?_ (ofL [(3, 43)]) .ofL ?_ ?_ <;> try simp only []
                · omega
                · rw [List.length_append, List.length_singleton]; omega
                · omega
                · try simp (disch := omega) only [push_cast, ↓omv, ↓oas, ↓opk, ↓oal, ↓obx, ↓obd, ↓obs, ↓old, ↓ost, ↓onc, ↓obo, ↓ouo, ↓ocv, ↓omf, ↓oms, ↓osl, ↓ofa, ↓ofd, ↓oia, ↓oix, ↓oex, ↓obi, ↓ogd, ↓pmv, ↓pas, ↓ppk, ↓pal, ↓pbx, ↓pbd, ↓pbs, ↓pld, ↓pst, ↓pnc, ↓pbo, ↓puo, ↓pcv, ↓pmf, ↓pms, ↓psl, ↓pfa, ↓pfd, ↓pia, ↓pix, ↓pex, ↓pbi, ↓pgd, ↓aop_build, ↓reduceIte, Nat.reduceEqDiff, Nat.reduceAdd, Nat.reduceMul, Nat.reduceSub, Nat.reduceLT, Nat.reduceLeDiff, reduceCtorEq, Int.reduceToNat, Int.natCast_add, Int.cast_ofNat_Int, List.length_append, List.length_singleton]
                · try simp (disch := omega) only [push_cast, ↓omv, ↓oas, ↓opk, ↓oal, ↓obx, ↓obd, ↓obs, ↓old, ↓ost, ↓onc, ↓obo, ↓ouo, ↓ocv, ↓omf, ↓oms, ↓osl, ↓ofa, ↓ofd, ↓oia, ↓oix, ↓oex, ↓obi, ↓ogd, ↓pmv, ↓pas, ↓ppk, ↓pal, ↓pbx, ↓pbd, ↓pbs, ↓pld, ↓pst, ↓pnc, ↓pbo, ↓puo, ↓pcv, ↓pmf, ↓pms, ↓psl, ↓pfa, ↓pfd, ↓pia, ↓pix, ↓pex, ↓pbi, ↓pgd, ↓aop_build, ↓reduceIte, Nat.reduceEqDiff, Nat.reduceAdd, Nat.reduceMul, Nat.reduceSub, Nat.reduceLT, Nat.reduceLeDiff, reduceCtorEq, Int.reduceToNat, List.length_append, List.length_singleton]
          · have hkn : k = n := by omega
            subst hkn
            rw [Nat.sub_self, setQ] at hk4
            have hr2 : res = some ⟨x, y, lk⟩ := hk4.symm
            subst hr2
            refine cs_freeze 3 rfl ?_
            refine cs_frozen_cell 2 2 rfl rfl rfl (by simp only [setR_len]) ?_
            repeat' ((first
    | refine cs_seq ?_
    | refine cs_reg (by rfl) (fun K Kp hK hKp => ?_)
    | refine cs_drw mixed (by rfl) (by kernel_rfl) (fun K hK => ?_)
    | (refine hK _ _ ?_; try clear hKp; try clear hK; try clear Kp; try clear K)
    | refine cs_cond ?_
    | refine cs_ret (ret_fn ?_)
    | refine cs_scope ?_
    | refine cs_label ?_
    | refine cs_block ?_
    | refine cs_skip ?_
    | refine cs_exit ?_
    | ((first | refine grdO_dec (fun hp => ?_) (fun hp => ?_) | refine grdO_nd (fun hp => ?_) (fun hp => ?_) | refine grdO_nb (fun hp => ?_) (fun hp => ?_) | refine grdO_b (fun hp => ?_) (fun hp => ?_) | refine grdP_dec (fun hp => ?_) (fun hp => ?_) | refine grdP_nd (fun hp => ?_) (fun hp => ?_) | refine grdP_nb (fun hp => ?_) (fun hp => ?_) | refine grdP_b (fun hp => ?_) (fun hp => ?_) | refine condK_d (fun hp => ?_) (fun hp => ?_) | refine condK_nd (fun hp => ?_) (fun hp => ?_) | refine condK_nb (fun hp => ?_) (fun hp => ?_) | refine condK_b (fun hp => ?_) (fun hp => ?_)) <;> first | (exfalso; omega; done) | skip)
    | (with_reducible refine And.intro ?_ ?_; focus (first | omega | (constructor <;> omega) | (have hbits : IntKind.i64.bits = 64 := rfl; omega) | (simp [List.set_cons_zero, List.set_cons_succ]; done) | (simp [List.set_cons_zero, List.set_cons_succ]; omega)))) <;> try simp (disch := omega) only [push_cast, ↓omv, ↓oas, ↓opk, ↓oal, ↓obx, ↓obd, ↓obs, ↓old, ↓ost, ↓onc, ↓obo, ↓ouo, ↓ocv, ↓omf, ↓oms, ↓osl, ↓ofa, ↓ofd, ↓oia, ↓oix, ↓oex, ↓obi, ↓ogd, ↓pmv, ↓pas, ↓ppk, ↓pal, ↓pbx, ↓pbd, ↓pbs, ↓pld, ↓pst, ↓pnc, ↓pbo, ↓puo, ↓pcv, ↓pmf, ↓pms, ↓psl, ↓pfa, ↓pfd, ↓pia, ↓pix, ↓pex, ↓pbi, ↓pgd, ↓aop_build, ↓reduceIte, Nat.reduceEqDiff, Nat.reduceAdd, Nat.reduceMul, Nat.reduceSub, Nat.reduceLT, Nat.reduceLeDiff, reduceCtorEq, Int.reduceToNat, List.set_cons_zero, List.set_cons_succ])
            all_goals exact ⟨rfl, gdA_ids _⟩

theorem rread_fn (b : List Int) (hb : Bytes b) (hl : b.length ≤ 1000000) (at_ : Int) (ha : -1000000 ≤ at_ ∧ at_ ≤ 1000000) : AFun Try.prog 9 [bytesA b, i64 at_] (gdA (readS b at_)) := by
  have c1 := ru32_fn b hb (by omega) at_
  have c2 := ru16_fn b hb (by omega) (at_ + 10)
  have t10 := ru2_b hb (at_ + 10)
  cases hv : rd b at_ 4 with
  | none =>
    rw [show ru4 b at_ = -1 by unfold ru4; rw [hv]; rfl] at c1
    rw [show readS b at_ = none by unfold readS; rw [hv]]
    refine acalls_body Try.func9 rfl Try.ntmps9 (by simp) ?_
    rw [Try.results9]
    repeat' ((first
    | refine cs_seq ?_
    | refine cs_reg (by rfl) (fun K Kp hK hKp => ?_)
    | refine cs_drw mixed (by rfl) (by kernel_rfl) (fun K hK => ?_)
    | (refine hK _ _ ?_; try clear hKp; try clear hK; try clear Kp; try clear K)
    | refine cs_cond ?_
    | refine cs_ret (ret_fn ?_)
    | refine cs_scope ?_
    | refine cs_label ?_
    | refine cs_block ?_
    | refine cs_skip ?_
    | refine cs_exit ?_
    | ((first | refine grdO_dec (fun hp => ?_) (fun hp => ?_) | refine grdO_nd (fun hp => ?_) (fun hp => ?_) | refine grdO_nb (fun hp => ?_) (fun hp => ?_) | refine grdO_b (fun hp => ?_) (fun hp => ?_) | refine grdP_dec (fun hp => ?_) (fun hp => ?_) | refine grdP_nd (fun hp => ?_) (fun hp => ?_) | refine grdP_nb (fun hp => ?_) (fun hp => ?_) | refine grdP_b (fun hp => ?_) (fun hp => ?_) | refine condK_d (fun hp => ?_) (fun hp => ?_) | refine condK_nd (fun hp => ?_) (fun hp => ?_) | refine condK_nb (fun hp => ?_) (fun hp => ?_) | refine condK_b (fun hp => ?_) (fun hp => ?_)) <;> first | (exfalso; omega; done) | skip)
    | (refine regO_call rfl ?_; refine CallK.fn (c1) (by simp only [push_cast]) rfl (by simp only [push_cast, and_self]) (by simp only [push_cast, and_self]) (by simp only [push_cast, ↓reduceIte, Nat.reduceEqDiff, Nat.reduceAdd]) ?_)
    | (refine regO_call rfl ?_; refine CallK.fn (c2) (by simp only [push_cast]) rfl (by simp only [push_cast, and_self]) (by simp only [push_cast, and_self]) (by simp only [push_cast, ↓reduceIte, Nat.reduceEqDiff, Nat.reduceAdd]) ?_)
    | (with_reducible refine And.intro ?_ ?_; focus (first | omega | (constructor <;> omega) | (have hbits : IntKind.i64.bits = 64 := rfl; omega) | (simp []; done) | (simp []; omega)))) <;> try simp (disch := omega) only [push_cast, ↓omv, ↓oas, ↓opk, ↓oal, ↓obx, ↓obd, ↓obs, ↓old, ↓ost, ↓onc, ↓obo, ↓ouo, ↓ocv, ↓omf, ↓oms, ↓osl, ↓ofa, ↓ofd, ↓oia, ↓oix, ↓oex, ↓obi, ↓ogd, ↓pmv, ↓pas, ↓ppk, ↓pal, ↓pbx, ↓pbd, ↓pbs, ↓pld, ↓pst, ↓pnc, ↓pbo, ↓puo, ↓pcv, ↓pmf, ↓pms, ↓psl, ↓pfa, ↓pfd, ↓pia, ↓pix, ↓pex, ↓pbi, ↓pgd, ↓aop_build, ↓reduceIte, Nat.reduceEqDiff, Nat.reduceAdd, Nat.reduceMul, Nat.reduceSub, Nat.reduceLT, Nat.reduceLeDiff, reduceCtorEq, Int.reduceToNat])
    all_goals exact ⟨rfl, gdA_ids _⟩
  | some v =>
    have w1 := rd_within hv
    by_cases h1 : v ≠ 65536 ∧ v ≠ 65538
    · rw [show ru4 b at_ = v by unfold ru4; rw [hv]; rfl] at c1
      rw [show readS b at_ = none by unfold readS; rw [hv]; simp only []; rw [if_pos h1]]
      refine acalls_body Try.func9 rfl Try.ntmps9 (by simp) ?_
      rw [Try.results9]
      repeat' ((first
    | refine cs_seq ?_
    | refine cs_reg (by rfl) (fun K Kp hK hKp => ?_)
    | refine cs_drw mixed (by rfl) (by kernel_rfl) (fun K hK => ?_)
    | (refine hK _ _ ?_; try clear hKp; try clear hK; try clear Kp; try clear K)
    | refine cs_cond ?_
    | refine cs_ret (ret_fn ?_)
    | refine cs_scope ?_
    | refine cs_label ?_
    | refine cs_block ?_
    | refine cs_skip ?_
    | refine cs_exit ?_
    | ((first | refine grdO_dec (fun hp => ?_) (fun hp => ?_) | refine grdO_nd (fun hp => ?_) (fun hp => ?_) | refine grdO_nb (fun hp => ?_) (fun hp => ?_) | refine grdO_b (fun hp => ?_) (fun hp => ?_) | refine grdP_dec (fun hp => ?_) (fun hp => ?_) | refine grdP_nd (fun hp => ?_) (fun hp => ?_) | refine grdP_nb (fun hp => ?_) (fun hp => ?_) | refine grdP_b (fun hp => ?_) (fun hp => ?_) | refine condK_d (fun hp => ?_) (fun hp => ?_) | refine condK_nd (fun hp => ?_) (fun hp => ?_) | refine condK_nb (fun hp => ?_) (fun hp => ?_) | refine condK_b (fun hp => ?_) (fun hp => ?_)) <;> first | (exfalso; omega; done) | skip)
    | (refine regO_call rfl ?_; refine CallK.fn (c1) (by simp only [push_cast]) rfl (by simp only [push_cast, and_self]) (by simp only [push_cast, and_self]) (by simp only [push_cast, ↓reduceIte, Nat.reduceEqDiff, Nat.reduceAdd]) ?_)
    | (refine regO_call rfl ?_; refine CallK.fn (c2) (by simp only [push_cast]) rfl (by simp only [push_cast, and_self]) (by simp only [push_cast, and_self]) (by simp only [push_cast, ↓reduceIte, Nat.reduceEqDiff, Nat.reduceAdd]) ?_)
    | (with_reducible refine And.intro ?_ ?_; focus (first | omega | (constructor <;> omega) | (have hbits : IntKind.i64.bits = 64 := rfl; omega) | (simp []; done) | (simp []; omega)))) <;> try simp (disch := omega) only [push_cast, ↓omv, ↓oas, ↓opk, ↓oal, ↓obx, ↓obd, ↓obs, ↓old, ↓ost, ↓onc, ↓obo, ↓ouo, ↓ocv, ↓omf, ↓oms, ↓osl, ↓ofa, ↓ofd, ↓oia, ↓oix, ↓oex, ↓obi, ↓ogd, ↓pmv, ↓pas, ↓ppk, ↓pal, ↓pbx, ↓pbd, ↓pbs, ↓pld, ↓pst, ↓pnc, ↓pbo, ↓puo, ↓pcv, ↓pmf, ↓pms, ↓psl, ↓pfa, ↓pfd, ↓pia, ↓pix, ↓pex, ↓pbi, ↓pgd, ↓aop_build, ↓reduceIte, Nat.reduceEqDiff, Nat.reduceAdd, Nat.reduceMul, Nat.reduceSub, Nat.reduceLT, Nat.reduceLeDiff, reduceCtorEq, Int.reduceToNat])
      all_goals exact ⟨rfl, gdA_ids _⟩
    · by_cases h2 : 0 ≤ at_ ∧ at_ + 12 ≤ b.length
      · by_cases h3 : v = 65536
        · exact rread_a b hb hl at_ ha v hv h3 h2 _ rfl
        · exact rread_b b hb hl at_ ha v hv (by omega) h2 _ rfl
      · rw [show ru4 b at_ = v by unfold ru4; rw [hv]; rfl] at c1
        rw [ru2_out (a := at_ + 10) (by omega)] at c2
        rw [show readS b at_ = none by unfold readS; rw [hv]; simp only []; rw [if_neg h1, if_pos h2]]
        refine acalls_body Try.func9 rfl Try.ntmps9 (by simp) ?_
        rw [Try.results9]
        repeat' ((first
    | refine cs_seq ?_
    | refine cs_reg (by rfl) (fun K Kp hK hKp => ?_)
    | refine cs_drw mixed (by rfl) (by kernel_rfl) (fun K hK => ?_)
    | (refine hK _ _ ?_; try clear hKp; try clear hK; try clear Kp; try clear K)
    | refine cs_cond ?_
    | refine cs_ret (ret_fn ?_)
    | refine cs_scope ?_
    | refine cs_label ?_
    | refine cs_block ?_
    | refine cs_skip ?_
    | refine cs_exit ?_
    | ((first | refine grdO_dec (fun hp => ?_) (fun hp => ?_) | refine grdO_nd (fun hp => ?_) (fun hp => ?_) | refine grdO_nb (fun hp => ?_) (fun hp => ?_) | refine grdO_b (fun hp => ?_) (fun hp => ?_) | refine grdP_dec (fun hp => ?_) (fun hp => ?_) | refine grdP_nd (fun hp => ?_) (fun hp => ?_) | refine grdP_nb (fun hp => ?_) (fun hp => ?_) | refine grdP_b (fun hp => ?_) (fun hp => ?_) | refine condK_d (fun hp => ?_) (fun hp => ?_) | refine condK_nd (fun hp => ?_) (fun hp => ?_) | refine condK_nb (fun hp => ?_) (fun hp => ?_) | refine condK_b (fun hp => ?_) (fun hp => ?_)) <;> first | (exfalso; omega; done) | skip)
    | (refine regO_call rfl ?_; refine CallK.fn (c1) (by simp only [push_cast]) rfl (by simp only [push_cast, and_self]) (by simp only [push_cast, and_self]) (by simp only [push_cast, ↓reduceIte, Nat.reduceEqDiff, Nat.reduceAdd]) ?_)
    | (refine regO_call rfl ?_; refine CallK.fn (c2) (by simp only [push_cast]) rfl (by simp only [push_cast, and_self]) (by simp only [push_cast, and_self]) (by simp only [push_cast, ↓reduceIte, Nat.reduceEqDiff, Nat.reduceAdd]) ?_)
    | (with_reducible refine And.intro ?_ ?_; focus (first | omega | (constructor <;> omega) | (have hbits : IntKind.i64.bits = 64 := rfl; omega) | (simp []; done) | (simp []; omega)))) <;> try simp (disch := omega) only [push_cast, ↓omv, ↓oas, ↓opk, ↓oal, ↓obx, ↓obd, ↓obs, ↓old, ↓ost, ↓onc, ↓obo, ↓ouo, ↓ocv, ↓omf, ↓oms, ↓osl, ↓ofa, ↓ofd, ↓oia, ↓oix, ↓oex, ↓obi, ↓ogd, ↓pmv, ↓pas, ↓ppk, ↓pal, ↓pbx, ↓pbd, ↓pbs, ↓pld, ↓pst, ↓pnc, ↓pbo, ↓puo, ↓pcv, ↓pmf, ↓pms, ↓psl, ↓pfa, ↓pfd, ↓pia, ↓pix, ↓pex, ↓pbi, ↓pgd, ↓aop_build, ↓reduceIte, Nat.reduceEqDiff, Nat.reduceAdd, Nat.reduceMul, Nat.reduceSub, Nat.reduceLT, Nat.reduceLeDiff, reduceCtorEq, Int.reduceToNat])
        all_goals exact ⟨rfl, gdA_ids _⟩
end Go.Proofs.Ytohmjbgcmccplaa
