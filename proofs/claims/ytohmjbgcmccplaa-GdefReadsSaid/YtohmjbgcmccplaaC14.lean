/- What the document's finders tell, and the spans' numbers. No condition. -/
import Derived.Test.YtohmjbgcmccplaaC13
namespace Go.Proofs.Ytohmjbgcmccplaa
open Go Go.Ab
set_option maxRecDepth 100000
set_option maxHeartbeats 4000000
set_option linter.unusedSimpArgs false
set_option linter.unusedVariables false

structure Spn where
  lo : Int
  hi : Int
  deriving DecidableEq, Inhabited

def srow (g : Spn) : List PV := [.sc (.int .i64 g.lo), .sc (.int .i64 g.hi)]
def spanR (l : List Spn) : List (List PV) := l.map srow
theorem spanR_len (l : List Spn) : (spanR l).length = l.length := by simp [spanR]
theorem spanR_at (l : List Spn) (k : Nat) (h : k < l.length) : (spanR l).getD k [] = srow (l.getD k default) := by simp [spanR, h]
theorem spanR_two (l : List Spn) : (∀ r : List PV, r ∈ spanR l → r.length = 2) = True := by simp [spanR, srow]
theorem spanR_nil : spanR [] = [] := rfl
attribute [push_cast] spanR_len spanR_two spanR_nil

/-- Numbers of 64 bits. -/
def I64 (n : Int) : Prop := -9223372036854775808 ≤ n ∧ n ≤ 9223372036854775807

theorem rglyph_fn (l : List Grp) (hl : l.length ≤ 1000000000) (hG : ∀ g ∈ l, GrpIn g) (c : Int) (hc : -2147483648 ≤ c ∧ c ≤ 2147483647) : AFun Try.prog 14 [.p (.fro (groupR l)), i32 c] (i64 (glyphS l c)) := by
  refine acalls_body Try.func14 rfl Try.ntmps14 (by simp) ?_
  rw [Try.results14]
  repeat' ((first
    | refine cs_seq ?_
    | refine cs_reg (by rfl) (fun K Kp hK hKp => ?_)
    | refine cs_drw mixed (by rfl) (by kernel_rfl) (fun K hK => ?_)
    | (refine hK _ _ ?_; try clear hKp; try clear hK; try clear Kp; try clear K)
    | refine cs_cond ?_
    | refine cs_ret (ret_fn ?_)
    | refine cs_scope ?_
    | refine cs_label ?_
    | refine cs_block ?_
    | refine cs_skip ?_
    | refine cs_exit ?_
    | ((first | refine grdO_dec (fun hp => ?_) (fun hp => ?_) | refine grdO_nd (fun hp => ?_) (fun hp => ?_) | refine grdO_nb (fun hp => ?_) (fun hp => ?_) | refine grdO_b (fun hp => ?_) (fun hp => ?_) | refine grdP_dec (fun hp => ?_) (fun hp => ?_) | refine grdP_nd (fun hp => ?_) (fun hp => ?_) | refine grdP_nb (fun hp => ?_) (fun hp => ?_) | refine grdP_b (fun hp => ?_) (fun hp => ?_) | refine condK_d (fun hp => ?_) (fun hp => ?_) | refine condK_nd (fun hp => ?_) (fun hp => ?_) | refine condK_nb (fun hp => ?_) (fun hp => ?_) | refine condK_b (fun hp => ?_) (fun hp => ?_)) <;> first | (exfalso; omega; done) | skip)
    | (with_reducible refine And.intro ?_ ?_; focus (first | omega | (constructor <;> omega) | (have hbits : IntKind.i64.bits = 64 := rfl; omega) | (simp []; done) | (simp []; omega)))) <;> try simp (disch := omega) only [push_cast, ↓omv, ↓oas, ↓opk, ↓oal, ↓obx, ↓obd, ↓obs, ↓old, ↓ost, ↓onc, ↓obo, ↓ouo, ↓ocv, ↓omf, ↓oms, ↓osl, ↓ofa, ↓ofd, ↓oia, ↓oix, ↓oex, ↓obi, ↓ogd, ↓pmv, ↓pas, ↓ppk, ↓pal, ↓pbx, ↓pbd, ↓pbs, ↓pld, ↓pst, ↓pnc, ↓pbo, ↓puo, ↓pcv, ↓pmf, ↓pms, ↓psl, ↓pfa, ↓pfd, ↓pia, ↓pix, ↓pex, ↓pbi, ↓pgd, ↓aop_build, ↓reduceIte, Nat.reduceEqDiff, Nat.reduceAdd, Nat.reduceMul, Nat.reduceSub, Nat.reduceLT, Nat.reduceLeDiff, reduceCtorEq, Int.reduceToNat])
  refine cs_lp (ι := Nat) (fun k => [(0, .p (.fro (groupR l))), (1, i32 c), (5, i64 k)]) (fun _ => []) 0 (fun k => k ≤ l.length ∧ glyphS (l.drop k) c = glyphS l c) (fun k => l.length - k) 0 ⟨by omega, by simp⟩ ⟨ofL [], .ofL, ?_, trivial⟩ ?_
  · try simp (disch := omega) only [push_cast, ↓omv, ↓oas, ↓opk, ↓oal, ↓obx, ↓obd, ↓obs, ↓old, ↓ost, ↓onc, ↓obo, ↓ouo, ↓ocv, ↓omf, ↓oms, ↓osl, ↓ofa, ↓ofd, ↓oia, ↓oix, ↓oex, ↓obi, ↓ogd, ↓pmv, ↓pas, ↓ppk, ↓pal, ↓pbx, ↓pbd, ↓pbs, ↓pld, ↓pst, ↓pnc, ↓pbo, ↓puo, ↓pcv, ↓pmf, ↓pms, ↓psl, ↓pfa, ↓pfd, ↓pia, ↓pix, ↓pex, ↓pbi, ↓pgd, ↓aop_build, ↓reduceIte, Nat.reduceEqDiff, Nat.reduceAdd, Nat.reduceMul, Nat.reduceSub, Nat.reduceLT, Nat.reduceLeDiff, reduceCtorEq, Int.reduceToNat, Int.natCast_zero]
  rintro k ⟨hk1, hk2⟩
  have hg : k < l.length → GrpIn (l.getD k default) := fun h => hG _ (by simp [h])
  by_cases hk : k < l.length
  · obtain ⟨⟨a1, a2⟩, ⟨b1, b2⟩, ⟨d1, d2⟩⟩ := hg hk
    rw [glyphS_step hk] at hk2
    repeat' ((first
    | refine cs_seq ?_
    | refine cs_reg (by rfl) (fun K Kp hK hKp => ?_)
    | refine cs_drw mixed (by rfl) (by kernel_rfl) (fun K hK => ?_)
    | (refine hK _ _ ?_; try clear hKp; try clear hK; try clear Kp; try clear K)
    | refine cs_cond ?_
    | refine cs_ret (ret_fn ?_)
    | refine cs_scope ?_
    | refine cs_label ?_
    | refine cs_block ?_
    | refine cs_skip ?_
    | refine cs_exit ?_
    | ((first | refine grdO_dec (fun hp => ?_) (fun hp => ?_) | refine grdO_nd (fun hp => ?_) (fun hp => ?_) | refine grdO_nb (fun hp => ?_) (fun hp => ?_) | refine grdO_b (fun hp => ?_) (fun hp => ?_) | refine grdP_dec (fun hp => ?_) (fun hp => ?_) | refine grdP_nd (fun hp => ?_) (fun hp => ?_) | refine grdP_nb (fun hp => ?_) (fun hp => ?_) | refine grdP_b (fun hp => ?_) (fun hp => ?_) | refine condK_d (fun hp => ?_) (fun hp => ?_) | refine condK_nd (fun hp => ?_) (fun hp => ?_) | refine condK_nb (fun hp => ?_) (fun hp => ?_) | refine condK_b (fun hp => ?_) (fun hp => ?_)) <;> first | (exfalso; omega; done) | skip)
    | (with_reducible refine And.intro ?_ ?_; focus (first | omega | (constructor <;> omega) | (have hbits : IntKind.i64.bits = 64 := rfl; omega) | (simp [groupR_at, grow]; done) | (simp [groupR_at, grow]; omega)))) <;> try simp (disch := omega) only [push_cast, ↓omv, ↓oas, ↓opk, ↓oal, ↓obx, ↓obd, ↓obs, ↓old, ↓ost, ↓onc, ↓obo, ↓ouo, ↓ocv, ↓omf, ↓oms, ↓osl, ↓ofa, ↓ofd, ↓oia, ↓oix, ↓oex, ↓obi, ↓ogd, ↓pmv, ↓pas, ↓ppk, ↓pal, ↓pbx, ↓pbd, ↓pbs, ↓pld, ↓pst, ↓pnc, ↓pbo, ↓puo, ↓pcv, ↓pmf, ↓pms, ↓psl, ↓pfa, ↓pfd, ↓pia, ↓pix, ↓pex, ↓pbi, ↓pgd, ↓aop_build, ↓reduceIte, Nat.reduceEqDiff, Nat.reduceAdd, Nat.reduceMul, Nat.reduceSub, Nat.reduceLT, Nat.reduceLeDiff, reduceCtorEq, Int.reduceToNat, groupR_at, grow])
    · rw [if_pos (by omega)] at hk2
      have h3 : (l.getD k default).gl + c - (l.getD k default).lo = glyphS l c := by omega
      refine cs_ret ?_
      try simp (disch := omega) only [push_cast, ↓omv, ↓oas, ↓opk, ↓oal, ↓obx, ↓obd, ↓obs, ↓old, ↓ost, ↓onc, ↓obo, ↓ouo, ↓ocv, ↓omf, ↓oms, ↓osl, ↓ofa, ↓ofd, ↓oia, ↓oix, ↓oex, ↓obi, ↓ogd, ↓pmv, ↓pas, ↓ppk, ↓pal, ↓pbx, ↓pbd, ↓pbs, ↓pld, ↓pst, ↓pnc, ↓pbo, ↓puo, ↓pcv, ↓pmf, ↓pms, ↓psl, ↓pfa, ↓pfd, ↓pia, ↓pix, ↓pex, ↓pbi, ↓pgd, ↓aop_build, ↓reduceIte, Nat.reduceEqDiff, Nat.reduceAdd, Nat.reduceMul, Nat.reduceSub, Nat.reduceLT, Nat.reduceLeDiff, reduceCtorEq, Int.reduceToNat]
      refine ret_fn ?_
      try simp (disch := omega) only [push_cast, ↓omv, ↓oas, ↓opk, ↓oal, ↓obx, ↓obd, ↓obs, ↓old, ↓ost, ↓onc, ↓obo, ↓ouo, ↓ocv, ↓omf, ↓oms, ↓osl, ↓ofa, ↓ofd, ↓oia, ↓oix, ↓oex, ↓obi, ↓ogd, ↓pmv, ↓pas, ↓ppk, ↓pal, ↓pbx, ↓pbd, ↓pbs, ↓pld, ↓pst, ↓pnc, ↓pbo, ↓puo, ↓pcv, ↓pmf, ↓pms, ↓psl, ↓pfa, ↓pfd, ↓pia, ↓pix, ↓pex, ↓pbi, ↓pgd, ↓aop_build, ↓reduceIte, Nat.reduceEqDiff, Nat.reduceAdd, Nat.reduceMul, Nat.reduceSub, Nat.reduceLT, Nat.reduceLeDiff, reduceCtorEq, Int.reduceToNat, h3]
    · rw [if_neg (by omega)] at hk2
      refine Again.intro (k + 1) ⟨by omega, hk2⟩ (by omega) (ofL []) .ofL ?_ trivial
      try simp (disch := omega) only [push_cast, ↓omv, ↓oas, ↓opk, ↓oal, ↓obx, ↓obd, ↓obs, ↓old, ↓ost, ↓onc, ↓obo, ↓ouo, ↓ocv, ↓omf, ↓oms, ↓osl, ↓ofa, ↓ofd, ↓oia, ↓oix, ↓oex, ↓obi, ↓ogd, ↓pmv, ↓pas, ↓ppk, ↓pal, ↓pbx, ↓pbd, ↓pbs, ↓pld, ↓pst, ↓pnc, ↓pbo, ↓puo, ↓pcv, ↓pmf, ↓pms, ↓psl, ↓pfa, ↓pfd, ↓pia, ↓pix, ↓pex, ↓pbi, ↓pgd, ↓aop_build, ↓reduceIte, Nat.reduceEqDiff, Nat.reduceAdd, Nat.reduceMul, Nat.reduceSub, Nat.reduceLT, Nat.reduceLeDiff, reduceCtorEq, Int.reduceToNat, Int.natCast_add, Int.cast_ofNat_Int]
    · rw [if_neg (by omega)] at hk2
      refine Again.intro (k + 1) ⟨by omega, hk2⟩ (by omega) (ofL []) .ofL ?_ trivial
      try simp (disch := omega) only [push_cast, ↓omv, ↓oas, ↓opk, ↓oal, ↓obx, ↓obd, ↓obs, ↓old, ↓ost, ↓onc, ↓obo, ↓ouo, ↓ocv, ↓omf, ↓oms, ↓osl, ↓ofa, ↓ofd, ↓oia, ↓oix, ↓oex, ↓obi, ↓ogd, ↓pmv, ↓pas, ↓ppk, ↓pal, ↓pbx, ↓pbd, ↓pbs, ↓pld, ↓pst, ↓pnc, ↓pbo, ↓puo, ↓pcv, ↓pmf, ↓pms, ↓psl, ↓pfa, ↓pfd, ↓pia, ↓pix, ↓pex, ↓pbi, ↓pgd, ↓aop_build, ↓reduceIte, Nat.reduceEqDiff, Nat.reduceAdd, Nat.reduceMul, Nat.reduceSub, Nat.reduceLT, Nat.reduceLeDiff, reduceCtorEq, Int.reduceToNat, Int.natCast_add, Int.cast_ofNat_Int]
  · repeat' ((first
    | refine cs_seq ?_
    | refine cs_reg (by rfl) (fun K Kp hK hKp => ?_)
    | refine cs_drw mixed (by rfl) (by kernel_rfl) (fun K hK => ?_)
    | (refine hK _ _ ?_; try clear hKp; try clear hK; try clear Kp; try clear K)
    | refine cs_cond ?_
    | refine cs_ret (ret_fn ?_)
    | refine cs_scope ?_
    | refine cs_label ?_
    | refine cs_block ?_
    | refine cs_skip ?_
    | refine cs_exit ?_
    | ((first | refine grdO_dec (fun hp => ?_) (fun hp => ?_) | refine grdO_nd (fun hp => ?_) (fun hp => ?_) | refine grdO_nb (fun hp => ?_) (fun hp => ?_) | refine grdO_b (fun hp => ?_) (fun hp => ?_) | refine grdP_dec (fun hp => ?_) (fun hp => ?_) | refine grdP_nd (fun hp => ?_) (fun hp => ?_) | refine grdP_nb (fun hp => ?_) (fun hp => ?_) | refine grdP_b (fun hp => ?_) (fun hp => ?_) | refine condK_d (fun hp => ?_) (fun hp => ?_) | refine condK_nd (fun hp => ?_) (fun hp => ?_) | refine condK_nb (fun hp => ?_) (fun hp => ?_) | refine condK_b (fun hp => ?_) (fun hp => ?_)) <;> first | (exfalso; omega; done) | skip)
    | (with_reducible refine And.intro ?_ ?_; focus (first | omega | (constructor <;> omega) | (have hbits : IntKind.i64.bits = 64 := rfl; omega) | (simp []; done) | (simp []; omega)))) <;> try simp (disch := omega) only [push_cast, ↓omv, ↓oas, ↓opk, ↓oal, ↓obx, ↓obd, ↓obs, ↓old, ↓ost, ↓onc, ↓obo, ↓ouo, ↓ocv, ↓omf, ↓oms, ↓osl, ↓ofa, ↓ofd, ↓oia, ↓oix, ↓oex, ↓obi, ↓ogd, ↓pmv, ↓pas, ↓ppk, ↓pal, ↓pbx, ↓pbd, ↓pbs, ↓pld, ↓pst, ↓pnc, ↓pbo, ↓puo, ↓pcv, ↓pmf, ↓pms, ↓psl, ↓pfa, ↓pfd, ↓pia, ↓pix, ↓pex, ↓pbi, ↓pgd, ↓aop_build, ↓reduceIte, Nat.reduceEqDiff, Nat.reduceAdd, Nat.reduceMul, Nat.reduceSub, Nat.reduceLT, Nat.reduceLeDiff, reduceCtorEq, Int.reduceToNat])
    rw [List.drop_of_length_le (by omega)] at hk2
    rw [← hk2, glyphS]

theorem rof_fn (l : List Cls) (hl : l.length ≤ 1000000000) (c : Int) : AFun Try.prog 16 [.p (.fro (classR l)), i64 c] (i64 (ofS l c)) := by
  refine acalls_body Try.func16 rfl Try.ntmps16 (by simp) ?_
  rw [Try.results16]
  repeat' ((first
    | refine cs_seq ?_
    | refine cs_reg (by rfl) (fun K Kp hK hKp => ?_)
    | refine cs_drw mixed (by rfl) (by kernel_rfl) (fun K hK => ?_)
    | (refine hK _ _ ?_; try clear hKp; try clear hK; try clear Kp; try clear K)
    | refine cs_cond ?_
    | refine cs_ret (ret_fn ?_)
    | refine cs_scope ?_
    | refine cs_label ?_
    | refine cs_block ?_
    | refine cs_skip ?_
    | refine cs_exit ?_
    | ((first | refine grdO_dec (fun hp => ?_) (fun hp => ?_) | refine grdO_nd (fun hp => ?_) (fun hp => ?_) | refine grdO_nb (fun hp => ?_) (fun hp => ?_) | refine grdO_b (fun hp => ?_) (fun hp => ?_) | refine grdP_dec (fun hp => ?_) (fun hp => ?_) | refine grdP_nd (fun hp => ?_) (fun hp => ?_) | refine grdP_nb (fun hp => ?_) (fun hp => ?_) | refine grdP_b (fun hp => ?_) (fun hp => ?_) | refine condK_d (fun hp => ?_) (fun hp => ?_) | refine condK_nd (fun hp => ?_) (fun hp => ?_) | refine condK_nb (fun hp => ?_) (fun hp => ?_) | refine condK_b (fun hp => ?_) (fun hp => ?_)) <;> first | (exfalso; omega; done) | skip)
    | (with_reducible refine And.intro ?_ ?_; focus (first | omega | (constructor <;> omega) | (have hbits : IntKind.i64.bits = 64 := rfl; omega) | (simp []; done) | (simp []; omega)))) <;> try simp (disch := omega) only [push_cast, ↓omv, ↓oas, ↓opk, ↓oal, ↓obx, ↓obd, ↓obs, ↓old, ↓ost, ↓onc, ↓obo, ↓ouo, ↓ocv, ↓omf, ↓oms, ↓osl, ↓ofa, ↓ofd, ↓oia, ↓oix, ↓oex, ↓obi, ↓ogd, ↓pmv, ↓pas, ↓ppk, ↓pal, ↓pbx, ↓pbd, ↓pbs, ↓pld, ↓pst, ↓pnc, ↓pbo, ↓puo, ↓pcv, ↓pmf, ↓pms, ↓psl, ↓pfa, ↓pfd, ↓pia, ↓pix, ↓pex, ↓pbi, ↓pgd, ↓aop_build, ↓reduceIte, Nat.reduceEqDiff, Nat.reduceAdd, Nat.reduceMul, Nat.reduceSub, Nat.reduceLT, Nat.reduceLeDiff, reduceCtorEq, Int.reduceToNat])
  refine cs_lp (ι := Nat) (fun k => [(0, .p (.fro (classR l))), (1, i64 c), (5, i64 k)]) (fun _ => []) 0 (fun k => k ≤ l.length ∧ ofS (l.drop k) c = ofS l c) (fun k => l.length - k) 0 ⟨by omega, by simp⟩ ⟨ofL [], .ofL, ?_, trivial⟩ ?_
  · try simp (disch := omega) only [push_cast, ↓omv, ↓oas, ↓opk, ↓oal, ↓obx, ↓obd, ↓obs, ↓old, ↓ost, ↓onc, ↓obo, ↓ouo, ↓ocv, ↓omf, ↓oms, ↓osl, ↓ofa, ↓ofd, ↓oia, ↓oix, ↓oex, ↓obi, ↓ogd, ↓pmv, ↓pas, ↓ppk, ↓pal, ↓pbx, ↓pbd, ↓pbs, ↓pld, ↓pst, ↓pnc, ↓pbo, ↓puo, ↓pcv, ↓pmf, ↓pms, ↓psl, ↓pfa, ↓pfd, ↓pia, ↓pix, ↓pex, ↓pbi, ↓pgd, ↓aop_build, ↓reduceIte, Nat.reduceEqDiff, Nat.reduceAdd, Nat.reduceMul, Nat.reduceSub, Nat.reduceLT, Nat.reduceLeDiff, reduceCtorEq, Int.reduceToNat, Int.natCast_zero]
  rintro k ⟨hk1, hk2⟩
  by_cases hk : k < l.length
  · rw [ofS_step hk] at hk2
    repeat' ((first
    | refine cs_seq ?_
    | refine cs_reg (by rfl) (fun K Kp hK hKp => ?_)
    | refine cs_drw mixed (by rfl) (by kernel_rfl) (fun K hK => ?_)
    | (refine hK _ _ ?_; try clear hKp; try clear hK; try clear Kp; try clear K)
    | refine cs_cond ?_
    | refine cs_ret (ret_fn ?_)
    | refine cs_scope ?_
    | refine cs_label ?_
    | refine cs_block ?_
    | refine cs_skip ?_
    | refine cs_exit ?_
    | ((first | refine grdO_dec (fun hp => ?_) (fun hp => ?_) | refine grdO_nd (fun hp => ?_) (fun hp => ?_) | refine grdO_nb (fun hp => ?_) (fun hp => ?_) | refine grdO_b (fun hp => ?_) (fun hp => ?_) | refine grdP_dec (fun hp => ?_) (fun hp => ?_) | refine grdP_nd (fun hp => ?_) (fun hp => ?_) | refine grdP_nb (fun hp => ?_) (fun hp => ?_) | refine grdP_b (fun hp => ?_) (fun hp => ?_) | refine condK_d (fun hp => ?_) (fun hp => ?_) | refine condK_nd (fun hp => ?_) (fun hp => ?_) | refine condK_nb (fun hp => ?_) (fun hp => ?_) | refine condK_b (fun hp => ?_) (fun hp => ?_)) <;> first | (exfalso; omega; done) | skip)
    | (with_reducible refine And.intro ?_ ?_; focus (first | omega | (constructor <;> omega) | (have hbits : IntKind.i64.bits = 64 := rfl; omega) | (simp [classR_at, crow]; done) | (simp [classR_at, crow]; omega)))) <;> try simp (disch := omega) only [push_cast, ↓omv, ↓oas, ↓opk, ↓oal, ↓obx, ↓obd, ↓obs, ↓old, ↓ost, ↓onc, ↓obo, ↓ouo, ↓ocv, ↓omf, ↓oms, ↓osl, ↓ofa, ↓ofd, ↓oia, ↓oix, ↓oex, ↓obi, ↓ogd, ↓pmv, ↓pas, ↓ppk, ↓pal, ↓pbx, ↓pbd, ↓pbs, ↓pld, ↓pst, ↓pnc, ↓pbo, ↓puo, ↓pcv, ↓pmf, ↓pms, ↓psl, ↓pfa, ↓pfd, ↓pia, ↓pix, ↓pex, ↓pbi, ↓pgd, ↓aop_build, ↓reduceIte, Nat.reduceEqDiff, Nat.reduceAdd, Nat.reduceMul, Nat.reduceSub, Nat.reduceLT, Nat.reduceLeDiff, reduceCtorEq, Int.reduceToNat, classR_at, crow])
    · rw [if_pos (by omega)] at hk2
      refine cs_ret ?_
      try simp (disch := omega) only [push_cast, ↓omv, ↓oas, ↓opk, ↓oal, ↓obx, ↓obd, ↓obs, ↓old, ↓ost, ↓onc, ↓obo, ↓ouo, ↓ocv, ↓omf, ↓oms, ↓osl, ↓ofa, ↓ofd, ↓oia, ↓oix, ↓oex, ↓obi, ↓ogd, ↓pmv, ↓pas, ↓ppk, ↓pal, ↓pbx, ↓pbd, ↓pbs, ↓pld, ↓pst, ↓pnc, ↓pbo, ↓puo, ↓pcv, ↓pmf, ↓pms, ↓psl, ↓pfa, ↓pfd, ↓pia, ↓pix, ↓pex, ↓pbi, ↓pgd, ↓aop_build, ↓reduceIte, Nat.reduceEqDiff, Nat.reduceAdd, Nat.reduceMul, Nat.reduceSub, Nat.reduceLT, Nat.reduceLeDiff, reduceCtorEq, Int.reduceToNat]
      refine ret_fn ?_
      try simp (disch := omega) only [push_cast, ↓omv, ↓oas, ↓opk, ↓oal, ↓obx, ↓obd, ↓obs, ↓old, ↓ost, ↓onc, ↓obo, ↓ouo, ↓ocv, ↓omf, ↓oms, ↓osl, ↓ofa, ↓ofd, ↓oia, ↓oix, ↓oex, ↓obi, ↓ogd, ↓pmv, ↓pas, ↓ppk, ↓pal, ↓pbx, ↓pbd, ↓pbs, ↓pld, ↓pst, ↓pnc, ↓pbo, ↓puo, ↓pcv, ↓pmf, ↓pms, ↓psl, ↓pfa, ↓pfd, ↓pia, ↓pix, ↓pex, ↓pbi, ↓pgd, ↓aop_build, ↓reduceIte, Nat.reduceEqDiff, Nat.reduceAdd, Nat.reduceMul, Nat.reduceSub, Nat.reduceLT, Nat.reduceLeDiff, reduceCtorEq, Int.reduceToNat, hk2]
    · rw [if_neg (by omega)] at hk2
      refine Again.intro (k + 1) ⟨by omega, hk2⟩ (by omega) (ofL []) .ofL ?_ trivial
      try simp (disch := omega) only [push_cast, ↓omv, ↓oas, ↓opk, ↓oal, ↓obx, ↓obd, ↓obs, ↓old, ↓ost, ↓onc, ↓obo, ↓ouo, ↓ocv, ↓omf, ↓oms, ↓osl, ↓ofa, ↓ofd, ↓oia, ↓oix, ↓oex, ↓obi, ↓ogd, ↓pmv, ↓pas, ↓ppk, ↓pal, ↓pbx, ↓pbd, ↓pbs, ↓pld, ↓pst, ↓pnc, ↓pbo, ↓puo, ↓pcv, ↓pmf, ↓pms, ↓psl, ↓pfa, ↓pfd, ↓pia, ↓pix, ↓pex, ↓pbi, ↓pgd, ↓aop_build, ↓reduceIte, Nat.reduceEqDiff, Nat.reduceAdd, Nat.reduceMul, Nat.reduceSub, Nat.reduceLT, Nat.reduceLeDiff, reduceCtorEq, Int.reduceToNat, Int.natCast_add, Int.cast_ofNat_Int]
    · rw [if_neg (by omega)] at hk2
      refine Again.intro (k + 1) ⟨by omega, hk2⟩ (by omega) (ofL []) .ofL ?_ trivial
      try simp (disch := omega) only [push_cast, ↓omv, ↓oas, ↓opk, ↓oal, ↓obx, ↓obd, ↓obs, ↓old, ↓ost, ↓onc, ↓obo, ↓ouo, ↓ocv, ↓omf, ↓oms, ↓osl, ↓ofa, ↓ofd, ↓oia, ↓oix, ↓oex, ↓obi, ↓ogd, ↓pmv, ↓pas, ↓ppk, ↓pal, ↓pbx, ↓pbd, ↓pbs, ↓pld, ↓pst, ↓pnc, ↓pbo, ↓puo, ↓pcv, ↓pmf, ↓pms, ↓psl, ↓pfa, ↓pfd, ↓pia, ↓pix, ↓pex, ↓pbi, ↓pgd, ↓aop_build, ↓reduceIte, Nat.reduceEqDiff, Nat.reduceAdd, Nat.reduceMul, Nat.reduceSub, Nat.reduceLT, Nat.reduceLeDiff, reduceCtorEq, Int.reduceToNat, Int.natCast_add, Int.cast_ofNat_Int]
  · repeat' ((first
    | refine cs_seq ?_
    | refine cs_reg (by rfl) (fun K Kp hK hKp => ?_)
    | refine cs_drw mixed (by rfl) (by kernel_rfl) (fun K hK => ?_)
    | (refine hK _ _ ?_; try clear hKp; try clear hK; try clear Kp; try clear K)
    | refine cs_cond ?_
    | refine cs_ret (ret_fn ?_)
    | refine cs_scope ?_
    | refine cs_label ?_
    | refine cs_block ?_
    | refine cs_skip ?_
    | refine cs_exit ?_
    | ((first | refine grdO_dec (fun hp => ?_) (fun hp => ?_) | refine grdO_nd (fun hp => ?_) (fun hp => ?_) | refine grdO_nb (fun hp => ?_) (fun hp => ?_) | refine grdO_b (fun hp => ?_) (fun hp => ?_) | refine grdP_dec (fun hp => ?_) (fun hp => ?_) | refine grdP_nd (fun hp => ?_) (fun hp => ?_) | refine grdP_nb (fun hp => ?_) (fun hp => ?_) | refine grdP_b (fun hp => ?_) (fun hp => ?_) | refine condK_d (fun hp => ?_) (fun hp => ?_) | refine condK_nd (fun hp => ?_) (fun hp => ?_) | refine condK_nb (fun hp => ?_) (fun hp => ?_) | refine condK_b (fun hp => ?_) (fun hp => ?_)) <;> first | (exfalso; omega; done) | skip)
    | (with_reducible refine And.intro ?_ ?_; focus (first | omega | (constructor <;> omega) | (have hbits : IntKind.i64.bits = 64 := rfl; omega) | (simp []; done) | (simp []; omega)))) <;> try simp (disch := omega) only [push_cast, ↓omv, ↓oas, ↓opk, ↓oal, ↓obx, ↓obd, ↓obs, ↓old, ↓ost, ↓onc, ↓obo, ↓ouo, ↓ocv, ↓omf, ↓oms, ↓osl, ↓ofa, ↓ofd, ↓oia, ↓oix, ↓oex, ↓obi, ↓ogd, ↓pmv, ↓pas, ↓ppk, ↓pal, ↓pbx, ↓pbd, ↓pbs, ↓pld, ↓pst, ↓pnc, ↓pbo, ↓puo, ↓pcv, ↓pmf, ↓pms, ↓psl, ↓pfa, ↓pfd, ↓pia, ↓pix, ↓pex, ↓pbi, ↓pgd, ↓aop_build, ↓reduceIte, Nat.reduceEqDiff, Nat.reduceAdd, Nat.reduceMul, Nat.reduceSub, Nat.reduceLT, Nat.reduceLeDiff, reduceCtorEq, Int.reduceToNat])
    rw [List.drop_of_length_le (by omega)] at hk2
    rw [← hk2, ofS]
end Go.Proofs.Ytohmjbgcmccplaa
