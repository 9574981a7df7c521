/- What putting spans, and classes, together tells. No condition. -/
import Derived.Test.YtohmjbgcmccplaaC17
namespace Go.Proofs.Ytohmjbgcmccplaa
open Go Go.Ab
set_option maxRecDepth 100000
set_option maxHeartbeats 4000000
set_option linter.unusedSimpArgs false
set_option linter.unusedVariables false

theorem spanR_last (l : List Spn) (p : Spn) : (spanR (l ++ [p])).getD l.length [] = srow p := by simp [spanR]
theorem spanR_snoc (l : List Spn) (a b : Int) : spanR l ++ [[.sc (.int .i64 a), .sc (.int .i64 b)]] = spanR (l ++ [⟨a, b⟩]) := by simp [spanR, srow]
theorem spanR_one (a b : Int) : [[.sc (.int .i64 a), .sc (.int .i64 b)]] = spanR [⟨a, b⟩] := by simp [spanR, srow]
theorem spanR_set (l : List Spn) (p : Spn) (a b : Int) : (spanR (l ++ [p])).set l.length [.sc (.int .i64 a), .sc (.int .i64 b)] = spanR (l ++ [⟨a, b⟩]) := by simp [spanR, srow]
attribute [push_cast] spanR_snoc spanR_set spanR_last
theorem len_snocS (l : List Spn) (p : Spn) : (l ++ [p]).length = l.length + 1 := by simp

/-- Spans with one more behind them. -/
def joinS (l : List Spn) (s : Spn) : List Spn := match l.getLast? with
  | some p => if p.hi + 1 = s.lo then l.dropLast ++ [⟨p.lo, s.hi⟩] else l ++ [s]
  | none => [s]

theorem joined_more (l : List Spn) (p : Spn) (lo hi : Int) (hl : l.length ≤ 1000000000) (hp : -1 ≤ p.hi ∧ p.hi ≤ 1000000000) (h1 : p.hi + 1 = lo) :
    AMem Try.prog 55 [.arr 51 2 (spanR (l ++ [p]))] [.ref 0 (l.length + 1), .agg [i64 lo, i64 hi]] (.ref 1 (l.length + 1)) [none, some (.arr 51 2 (spanR (l ++ [⟨p.lo, hi⟩])))] := by
  refine amem_body Try.func55 rfl Try.ntmps55 (by simp) ?_
  rw [Try.results55]
  obtain ⟨p1, p2⟩ := hp
  repeat' ((first
    | refine cs_seq ?_
    | (refine cs_ret (ret_move 0 rfl ?_ ?_ ?_) <;> try simp (disch := omega) only [push_cast, ↓omv, ↓oas, ↓opk, ↓oal, ↓obx, ↓obd, ↓obs, ↓old, ↓ost, ↓onc, ↓obo, ↓ouo, ↓ocv, ↓omf, ↓oms, ↓osl, ↓ofa, ↓ofd, ↓oia, ↓oix, ↓oex, ↓obi, ↓ogd, ↓pmv, ↓pas, ↓ppk, ↓pal, ↓pbx, ↓pbd, ↓pbs, ↓pld, ↓pst, ↓pnc, ↓pbo, ↓puo, ↓pcv, ↓pmf, ↓pms, ↓psl, ↓pfa, ↓pfd, ↓pia, ↓pix, ↓pex, ↓pbi, ↓pgd, ↓aop_build, ↓reduceIte, Nat.reduceEqDiff, Nat.reduceAdd, Nat.reduceMul, Nat.reduceSub, Nat.reduceLT, Nat.reduceLeDiff, reduceCtorEq, Int.reduceToNat])
    | refine cs_reg (by rfl) (fun K Kp hK hKp => ?_)
    | refine cs_drw mixed (by rfl) (by kernel_rfl) (fun K hK => ?_)
    | (refine hK _ _ ?_; try clear hKp; try clear hK; try clear Kp; try clear K)
    | refine cs_cond ?_
    | refine cs_ret (ret_fn ?_)
    | refine cs_scope ?_
    | refine cs_label ?_
    | refine cs_block ?_
    | refine cs_skip ?_
    | refine cs_exit ?_
    | ((first | refine grdO_dec (fun hp => ?_) (fun hp => ?_) | refine grdO_nd (fun hp => ?_) (fun hp => ?_) | refine grdO_nb (fun hp => ?_) (fun hp => ?_) | refine grdO_b (fun hp => ?_) (fun hp => ?_) | refine grdP_dec (fun hp => ?_) (fun hp => ?_) | refine grdP_nd (fun hp => ?_) (fun hp => ?_) | refine grdP_nb (fun hp => ?_) (fun hp => ?_) | refine grdP_b (fun hp => ?_) (fun hp => ?_) | refine condK_d (fun hp => ?_) (fun hp => ?_) | refine condK_nd (fun hp => ?_) (fun hp => ?_) | refine condK_nb (fun hp => ?_) (fun hp => ?_) | refine condK_b (fun hp => ?_) (fun hp => ?_)) <;> first | (exfalso; omega; done) | skip)
    | (with_reducible refine And.intro ?_ ?_; focus (first | omega | (constructor <;> omega) | (have hbits : IntKind.i64.bits = 64 := rfl; omega) | (simp [len_snocS, Int.add_sub_cancel, srow, Int.natCast_add, Int.cast_ofNat_Int]; done) | (simp [len_snocS, Int.add_sub_cancel, srow, Int.natCast_add, Int.cast_ofNat_Int]; omega)))) <;> try simp (disch := omega) only [push_cast, ↓omv, ↓oas, ↓opk, ↓oal, ↓obx, ↓obd, ↓obs, ↓old, ↓ost, ↓onc, ↓obo, ↓ouo, ↓ocv, ↓omf, ↓oms, ↓osl, ↓ofa, ↓ofd, ↓oia, ↓oix, ↓oex, ↓obi, ↓ogd, ↓pmv, ↓pas, ↓ppk, ↓pal, ↓pbx, ↓pbd, ↓pbs, ↓pld, ↓pst, ↓pnc, ↓pbo, ↓puo, ↓pcv, ↓pmf, ↓pms, ↓psl, ↓pfa, ↓pfd, ↓pia, ↓pix, ↓pex, ↓pbi, ↓pgd, ↓aop_build, ↓reduceIte, Nat.reduceEqDiff, Nat.reduceAdd, Nat.reduceMul, Nat.reduceSub, Nat.reduceLT, Nat.reduceLeDiff, reduceCtorEq, Int.reduceToNat, len_snocS, Int.add_sub_cancel, srow, Int.natCast_add, Int.cast_ofNat_Int])

theorem joined_new (l : List Spn) (p : Spn) (lo hi : Int) (hl : l.length ≤ 1000000000) (hp : -1 ≤ p.hi ∧ p.hi ≤ 1000000000) (h1 : ¬ p.hi + 1 = lo) :
    AMem Try.prog 55 [.arr 51 2 (spanR (l ++ [p]))] [.ref 0 (l.length + 1), .agg [i64 lo, i64 hi]] (.ref 1 (l.length + 1 + 1)) [none, some (.arr 51 2 (spanR (l ++ [p] ++ [⟨lo, hi⟩])))] := by
  refine amem_body Try.func55 rfl Try.ntmps55 (by simp) ?_
  rw [Try.results55]
  obtain ⟨p1, p2⟩ := hp
  repeat' ((first
    | refine cs_seq ?_
    | (refine cs_ret (ret_mem 23 (by simp) rfl ?_ ?_ ?_) <;> try simp (disch := omega) only [push_cast, ↓omv, ↓oas, ↓opk, ↓oal, ↓obx, ↓obd, ↓obs, ↓old, ↓ost, ↓onc, ↓obo, ↓ouo, ↓ocv, ↓omf, ↓oms, ↓osl, ↓ofa, ↓ofd, ↓oia, ↓oix, ↓oex, ↓obi, ↓ogd, ↓pmv, ↓pas, ↓ppk, ↓pal, ↓pbx, ↓pbd, ↓pbs, ↓pld, ↓pst, ↓pnc, ↓pbo, ↓puo, ↓pcv, ↓pmf, ↓pms, ↓psl, ↓pfa, ↓pfd, ↓pia, ↓pix, ↓pex, ↓pbi, ↓pgd, ↓aop_build, ↓reduceIte, Nat.reduceEqDiff, Nat.reduceAdd, Nat.reduceMul, Nat.reduceSub, Nat.reduceLT, Nat.reduceLeDiff, reduceCtorEq, Int.reduceToNat])
    | refine cs_reg (by rfl) (fun K Kp hK hKp => ?_)
    | refine cs_drw mixed (by rfl) (by kernel_rfl) (fun K hK => ?_)
    | (refine hK _ _ ?_; try clear hKp; try clear hK; try clear Kp; try clear K)
    | refine cs_cond ?_
    | refine cs_ret (ret_fn ?_)
    | refine cs_scope ?_
    | refine cs_label ?_
    | refine cs_block ?_
    | refine cs_skip ?_
    | refine cs_exit ?_
    | ((first | refine grdO_dec (fun hp => ?_) (fun hp => ?_) | refine grdO_nd (fun hp => ?_) (fun hp => ?_) | refine grdO_nb (fun hp => ?_) (fun hp => ?_) | refine grdO_b (fun hp => ?_) (fun hp => ?_) | refine grdP_dec (fun hp => ?_) (fun hp => ?_) | refine grdP_nd (fun hp => ?_) (fun hp => ?_) | refine grdP_nb (fun hp => ?_) (fun hp => ?_) | refine grdP_b (fun hp => ?_) (fun hp => ?_) | refine condK_d (fun hp => ?_) (fun hp => ?_) | refine condK_nd (fun hp => ?_) (fun hp => ?_) | refine condK_nb (fun hp => ?_) (fun hp => ?_) | refine condK_b (fun hp => ?_) (fun hp => ?_)) <;> first | (exfalso; omega; done) | skip)
    | (with_reducible refine And.intro ?_ ?_; focus (first | omega | (constructor <;> omega) | (have hbits : IntKind.i64.bits = 64 := rfl; omega) | (simp [len_snocS, Int.add_sub_cancel, srow, Int.natCast_add, Int.cast_ofNat_Int, maxLen]; done) | (simp [len_snocS, Int.add_sub_cancel, srow, Int.natCast_add, Int.cast_ofNat_Int, maxLen]; omega)))) <;> try simp (disch := omega) only [push_cast, ↓omv, ↓oas, ↓opk, ↓oal, ↓obx, ↓obd, ↓obs, ↓old, ↓ost, ↓onc, ↓obo, ↓ouo, ↓ocv, ↓omf, ↓oms, ↓osl, ↓ofa, ↓ofd, ↓oia, ↓oix, ↓oex, ↓obi, ↓ogd, ↓pmv, ↓pas, ↓ppk, ↓pal, ↓pbx, ↓pbd, ↓pbs, ↓pld, ↓pst, ↓pnc, ↓pbo, ↓puo, ↓pcv, ↓pmf, ↓pms, ↓psl, ↓pfa, ↓pfd, ↓pia, ↓pix, ↓pex, ↓pbi, ↓pgd, ↓aop_build, ↓reduceIte, Nat.reduceEqDiff, Nat.reduceAdd, Nat.reduceMul, Nat.reduceSub, Nat.reduceLT, Nat.reduceLeDiff, reduceCtorEq, Int.reduceToNat, len_snocS, Int.add_sub_cancel, srow, Int.natCast_add, Int.cast_ofNat_Int, maxLen])

theorem joined_first (lo hi : Int) : AMem Try.prog 55 [.arr 51 2 (spanR [])] [.ref 0 0, .agg [i64 lo, i64 hi]] (.ref 1 1) [none, some (.arr 51 2 (spanR [⟨lo, hi⟩]))] := by
  refine amem_body Try.func55 rfl Try.ntmps55 (by simp) ?_
  rw [Try.results55]
  repeat' ((first
    | refine cs_seq ?_
    | (refine cs_ret (ret_mem 23 (by simp) rfl ?_ ?_ ?_) <;> try simp (disch := omega) only [push_cast, ↓omv, ↓oas, ↓opk, ↓oal, ↓obx, ↓obd, ↓obs, ↓old, ↓ost, ↓onc, ↓obo, ↓ouo, ↓ocv, ↓omf, ↓oms, ↓osl, ↓ofa, ↓ofd, ↓oia, ↓oix, ↓oex, ↓obi, ↓ogd, ↓pmv, ↓pas, ↓ppk, ↓pal, ↓pbx, ↓pbd, ↓pbs, ↓pld, ↓pst, ↓pnc, ↓pbo, ↓puo, ↓pcv, ↓pmf, ↓pms, ↓psl, ↓pfa, ↓pfd, ↓pia, ↓pix, ↓pex, ↓pbi, ↓pgd, ↓aop_build, ↓reduceIte, Nat.reduceEqDiff, Nat.reduceAdd, Nat.reduceMul, Nat.reduceSub, Nat.reduceLT, Nat.reduceLeDiff, reduceCtorEq, Int.reduceToNat])
    | refine cs_reg (by rfl) (fun K Kp hK hKp => ?_)
    | refine cs_drw mixed (by rfl) (by kernel_rfl) (fun K hK => ?_)
    | (refine hK _ _ ?_; try clear hKp; try clear hK; try clear Kp; try clear K)
    | refine cs_cond ?_
    | refine cs_ret (ret_fn ?_)
    | refine cs_scope ?_
    | refine cs_label ?_
    | refine cs_block ?_
    | refine cs_skip ?_
    | refine cs_exit ?_
    | ((first | refine grdO_dec (fun hp => ?_) (fun hp => ?_) | refine grdO_nd (fun hp => ?_) (fun hp => ?_) | refine grdO_nb (fun hp => ?_) (fun hp => ?_) | refine grdO_b (fun hp => ?_) (fun hp => ?_) | refine grdP_dec (fun hp => ?_) (fun hp => ?_) | refine grdP_nd (fun hp => ?_) (fun hp => ?_) | refine grdP_nb (fun hp => ?_) (fun hp => ?_) | refine grdP_b (fun hp => ?_) (fun hp => ?_) | refine condK_d (fun hp => ?_) (fun hp => ?_) | refine condK_nd (fun hp => ?_) (fun hp => ?_) | refine condK_nb (fun hp => ?_) (fun hp => ?_) | refine condK_b (fun hp => ?_) (fun hp => ?_)) <;> first | (exfalso; omega; done) | skip)
    | (with_reducible refine And.intro ?_ ?_; focus (first | omega | (constructor <;> omega) | (have hbits : IntKind.i64.bits = 64 := rfl; omega) | (simp [len_snocS, Int.add_sub_cancel, srow, Int.natCast_add, Int.cast_ofNat_Int, maxLen]; done) | (simp [len_snocS, Int.add_sub_cancel, srow, Int.natCast_add, Int.cast_ofNat_Int, maxLen]; omega)))) <;> try simp (disch := omega) only [push_cast, ↓omv, ↓oas, ↓opk, ↓oal, ↓obx, ↓obd, ↓obs, ↓old, ↓ost, ↓onc, ↓obo, ↓ouo, ↓ocv, ↓omf, ↓oms, ↓osl, ↓ofa, ↓ofd, ↓oia, ↓oix, ↓oex, ↓obi, ↓ogd, ↓pmv, ↓pas, ↓ppk, ↓pal, ↓pbx, ↓pbd, ↓pbs, ↓pld, ↓pst, ↓pnc, ↓pbo, ↓puo, ↓pcv, ↓pmf, ↓pms, ↓psl, ↓pfa, ↓pfd, ↓pia, ↓pix, ↓pex, ↓pbi, ↓pgd, ↓aop_build, ↓reduceIte, Nat.reduceEqDiff, Nat.reduceAdd, Nat.reduceMul, Nat.reduceSub, Nat.reduceLT, Nat.reduceLeDiff, reduceCtorEq, Int.reduceToNat, len_snocS, Int.add_sub_cancel, srow, Int.natCast_add, Int.cast_ofNat_Int, maxLen])
  rfl

theorem joined_fn (l : List Spn) (lo hi : Int) (hl : l.length ≤ 1000000000) (hG : ∀ p ∈ l, -1 ≤ p.hi ∧ p.hi ≤ 1000000000) :
    AMem Try.prog 55 [.arr 51 2 (spanR l)] [.ref 0 l.length, .agg [i64 lo, i64 hi]] (.ref 1 (joinS l ⟨lo, hi⟩).length) [none, some (.arr 51 2 (spanR (joinS l ⟨lo, hi⟩)))] := by
  rcases List.eq_nil_or_concat l with rfl | ⟨l0, p, rfl⟩
  · exact joined_first lo hi
  · simp only [List.concat_eq_append] at hG hl ⊢
    have hp := hG p (by simp)
    have hl' : l0.length ≤ 1000000000 := by simp at hl; omega
    by_cases hm : p.hi + 1 = lo
    · rw [show joinS (l0 ++ [p]) ⟨lo, hi⟩ = l0 ++ [⟨p.lo, hi⟩] by unfold joinS; simp [hm]]
      have := joined_more l0 p lo hi hl' hp hm
      simpa using this
    · rw [show joinS (l0 ++ [p]) ⟨lo, hi⟩ = l0 ++ [p] ++ [⟨lo, hi⟩] by unfold joinS; simp [hm]]
      have := joined_new l0 p lo hi hl' hp hm
      simpa using this

theorem classR_last (l : List Cls) (p : Cls) : (classR (l ++ [p])).getD l.length [] = crow p := by simp [classR]
theorem classR_one (a b c : Int) : [[.sc (.int .i64 a), .sc (.int .i64 b), .sc (.int .i64 c)]] = classR [⟨a, b, c⟩] := by simp [classR, crow]
theorem classR_set (l : List Cls) (p : Cls) (a b c : Int) : (classR (l ++ [p])).set l.length [.sc (.int .i64 a), .sc (.int .i64 b), .sc (.int .i64 c)] = classR (l ++ [⟨a, b, c⟩]) := by simp [classR, crow]
attribute [push_cast] classR_snoc classR_set classR_last
theorem len_snocC (l : List Cls) (p : Cls) : (l ++ [p]).length = l.length + 1 := by simp

/-- Classes with one more range behind them. -/
def clsdS (l : List Cls) (s : Cls) : List Cls := if s.cl = 0 then l else match l.getLast? with
  | some p => if p.hi + 1 = s.lo ∧ p.cl = s.cl then l.dropLast ++ [⟨p.lo, s.hi, p.cl⟩] else l ++ [s]
  | none => [s]

theorem classed_none (l : List Cls) (lo hi : Int) : AMem Try.prog 48 [.arr 49 3 (classR l)] [.ref 0 l.length, .agg [i64 lo, i64 hi, i64 0]] (.ref 1 l.length) [none, some (.arr 49 3 (classR l))] := by
  refine amem_body Try.func48 rfl Try.ntmps48 (by simp) ?_
  rw [Try.results48]
  repeat' ((first
    | refine cs_seq ?_
    | (refine cs_ret (ret_move 0 rfl ?_ ?_ ?_) <;> try simp (disch := omega) only [push_cast, ↓omv, ↓oas, ↓opk, ↓oal, ↓obx, ↓obd, ↓obs, ↓old, ↓ost, ↓onc, ↓obo, ↓ouo, ↓ocv, ↓omf, ↓oms, ↓osl, ↓ofa, ↓ofd, ↓oia, ↓oix, ↓oex, ↓obi, ↓ogd, ↓pmv, ↓pas, ↓ppk, ↓pal, ↓pbx, ↓pbd, ↓pbs, ↓pld, ↓pst, ↓pnc, ↓pbo, ↓puo, ↓pcv, ↓pmf, ↓pms, ↓psl, ↓pfa, ↓pfd, ↓pia, ↓pix, ↓pex, ↓pbi, ↓pgd, ↓aop_build, ↓reduceIte, Nat.reduceEqDiff, Nat.reduceAdd, Nat.reduceMul, Nat.reduceSub, Nat.reduceLT, Nat.reduceLeDiff, reduceCtorEq, Int.reduceToNat])
    | refine cs_reg (by rfl) (fun K Kp hK hKp => ?_)
    | refine cs_drw mixed (by rfl) (by kernel_rfl) (fun K hK => ?_)
    | (refine hK _ _ ?_; try clear hKp; try clear hK; try clear Kp; try clear K)
    | refine cs_cond ?_
    | refine cs_ret (ret_fn ?_)
    | refine cs_scope ?_
    | refine cs_label ?_
    | refine cs_block ?_
    | refine cs_skip ?_
    | refine cs_exit ?_
    | ((first | refine grdO_dec (fun hp => ?_) (fun hp => ?_) | refine grdO_nd (fun hp => ?_) (fun hp => ?_) | refine grdO_nb (fun hp => ?_) (fun hp => ?_) | refine grdO_b (fun hp => ?_) (fun hp => ?_) | refine grdP_dec (fun hp => ?_) (fun hp => ?_) | refine grdP_nd (fun hp => ?_) (fun hp => ?_) | refine grdP_nb (fun hp => ?_) (fun hp => ?_) | refine grdP_b (fun hp => ?_) (fun hp => ?_) | refine condK_d (fun hp => ?_) (fun hp => ?_) | refine condK_nd (fun hp => ?_) (fun hp => ?_) | refine condK_nb (fun hp => ?_) (fun hp => ?_) | refine condK_b (fun hp => ?_) (fun hp => ?_)) <;> first | (exfalso; omega; done) | skip)
    | (with_reducible refine And.intro ?_ ?_; focus (first | omega | (constructor <;> omega) | (have hbits : IntKind.i64.bits = 64 := rfl; omega) | (simp []; done) | (simp []; omega)))) <;> try simp (disch := omega) only [push_cast, ↓omv, ↓oas, ↓opk, ↓oal, ↓obx, ↓obd, ↓obs, ↓old, ↓ost, ↓onc, ↓obo, ↓ouo, ↓ocv, ↓omf, ↓oms, ↓osl, ↓ofa, ↓ofd, ↓oia, ↓oix, ↓oex, ↓obi, ↓ogd, ↓pmv, ↓pas, ↓ppk, ↓pal, ↓pbx, ↓pbd, ↓pbs, ↓pld, ↓pst, ↓pnc, ↓pbo, ↓puo, ↓pcv, ↓pmf, ↓pms, ↓psl, ↓pfa, ↓pfd, ↓pia, ↓pix, ↓pex, ↓pbi, ↓pgd, ↓aop_build, ↓reduceIte, Nat.reduceEqDiff, Nat.reduceAdd, Nat.reduceMul, Nat.reduceSub, Nat.reduceLT, Nat.reduceLeDiff, reduceCtorEq, Int.reduceToNat])

theorem classed_more (l : List Cls) (p : Cls) (lo hi cl : Int) (hl : l.length ≤ 1000000000) (hp : -1 ≤ p.hi ∧ p.hi ≤ 1000000000) (h0 : ¬ cl = 0) (h1 : p.hi + 1 = lo) (h2 : p.cl = cl) :
    AMem Try.prog 48 [.arr 49 3 (classR (l ++ [p]))] [.ref 0 (l.length + 1), .agg [i64 lo, i64 hi, i64 cl]] (.ref 1 (l.length + 1)) [none, some (.arr 49 3 (classR (l ++ [⟨p.lo, hi, p.cl⟩])))] := by
  refine amem_body Try.func48 rfl Try.ntmps48 (by simp) ?_
  rw [Try.results48]
  obtain ⟨p1, p2⟩ := hp
  repeat' ((first
    | refine cs_seq ?_
    | (refine cs_ret (ret_move 0 rfl ?_ ?_ ?_) <;> try simp (disch := omega) only [push_cast, ↓omv, ↓oas, ↓opk, ↓oal, ↓obx, ↓obd, ↓obs, ↓old, ↓ost, ↓onc, ↓obo, ↓ouo, ↓ocv, ↓omf, ↓oms, ↓osl, ↓ofa, ↓ofd, ↓oia, ↓oix, ↓oex, ↓obi, ↓ogd, ↓pmv, ↓pas, ↓ppk, ↓pal, ↓pbx, ↓pbd, ↓pbs, ↓pld, ↓pst, ↓pnc, ↓pbo, ↓puo, ↓pcv, ↓pmf, ↓pms, ↓psl, ↓pfa, ↓pfd, ↓pia, ↓pix, ↓pex, ↓pbi, ↓pgd, ↓aop_build, ↓reduceIte, Nat.reduceEqDiff, Nat.reduceAdd, Nat.reduceMul, Nat.reduceSub, Nat.reduceLT, Nat.reduceLeDiff, reduceCtorEq, Int.reduceToNat])
    | refine cs_reg (by rfl) (fun K Kp hK hKp => ?_)
    | refine cs_drw mixed (by rfl) (by kernel_rfl) (fun K hK => ?_)
    | (refine hK _ _ ?_; try clear hKp; try clear hK; try clear Kp; try clear K)
    | refine cs_cond ?_
    | refine cs_ret (ret_fn ?_)
    | refine cs_scope ?_
    | refine cs_label ?_
    | refine cs_block ?_
    | refine cs_skip ?_
    | refine cs_exit ?_
    | ((first | refine grdO_dec (fun hp => ?_) (fun hp => ?_) | refine grdO_nd (fun hp => ?_) (fun hp => ?_) | refine grdO_nb (fun hp => ?_) (fun hp => ?_) | refine grdO_b (fun hp => ?_) (fun hp => ?_) | refine grdP_dec (fun hp => ?_) (fun hp => ?_) | refine grdP_nd (fun hp => ?_) (fun hp => ?_) | refine grdP_nb (fun hp => ?_) (fun hp => ?_) | refine grdP_b (fun hp => ?_) (fun hp => ?_) | refine condK_d (fun hp => ?_) (fun hp => ?_) | refine condK_nd (fun hp => ?_) (fun hp => ?_) | refine condK_nb (fun hp => ?_) (fun hp => ?_) | refine condK_b (fun hp => ?_) (fun hp => ?_)) <;> first | (exfalso; omega; done) | skip)
    | (with_reducible refine And.intro ?_ ?_; focus (first | omega | (constructor <;> omega) | (have hbits : IntKind.i64.bits = 64 := rfl; omega) | (simp [len_snocC, Int.add_sub_cancel, crow, Int.natCast_add, Int.cast_ofNat_Int]; done) | (simp [len_snocC, Int.add_sub_cancel, crow, Int.natCast_add, Int.cast_ofNat_Int]; omega)))) <;> try simp (disch := omega) only [push_cast, ↓omv, ↓oas, ↓opk, ↓oal, ↓obx, ↓obd, ↓obs, ↓old, ↓ost, ↓onc, ↓obo, ↓ouo, ↓ocv, ↓omf, ↓oms, ↓osl, ↓ofa, ↓ofd, ↓oia, ↓oix, ↓oex, ↓obi, ↓ogd, ↓pmv, ↓pas, ↓ppk, ↓pal, ↓pbx, ↓pbd, ↓pbs, ↓pld, ↓pst, ↓pnc, ↓pbo, ↓puo, ↓pcv, ↓pmf, ↓pms, ↓psl, ↓pfa, ↓pfd, ↓pia, ↓pix, ↓pex, ↓pbi, ↓pgd, ↓aop_build, ↓reduceIte, Nat.reduceEqDiff, Nat.reduceAdd, Nat.reduceMul, Nat.reduceSub, Nat.reduceLT, Nat.reduceLeDiff, reduceCtorEq, Int.reduceToNat, len_snocC, Int.add_sub_cancel, crow, Int.natCast_add, Int.cast_ofNat_Int])

theorem classed_new (l : List Cls) (p : Cls) (lo hi cl : Int) (hl : l.length ≤ 1000000000) (hp : -1 ≤ p.hi ∧ p.hi ≤ 1000000000) (h0 : ¬ cl = 0) (h1 : ¬ (p.hi + 1 = lo ∧ p.cl = cl)) :
    AMem Try.prog 48 [.arr 49 3 (classR (l ++ [p]))] [.ref 0 (l.length + 1), .agg [i64 lo, i64 hi, i64 cl]] (.ref 1 (l.length + 1 + 1)) [none, some (.arr 49 3 (classR (l ++ [p] ++ [⟨lo, hi, cl⟩])))] := by
  refine amem_body Try.func48 rfl Try.ntmps48 (by simp) ?_
  rw [Try.results48]
  obtain ⟨p1, p2⟩ := hp
  repeat' ((first
    | refine cs_seq ?_
    | (refine cs_ret (ret_mem 37 (by simp) rfl ?_ ?_ ?_) <;> try simp (disch := omega) only [push_cast, ↓omv, ↓oas, ↓opk, ↓oal, ↓obx, ↓obd, ↓obs, ↓old, ↓ost, ↓onc, ↓obo, ↓ouo, ↓ocv, ↓omf, ↓oms, ↓osl, ↓ofa, ↓ofd, ↓oia, ↓oix, ↓oex, ↓obi, ↓ogd, ↓pmv, ↓pas, ↓ppk, ↓pal, ↓pbx, ↓pbd, ↓pbs, ↓pld, ↓pst, ↓pnc, ↓pbo, ↓puo, ↓pcv, ↓pmf, ↓pms, ↓psl, ↓pfa, ↓pfd, ↓pia, ↓pix, ↓pex, ↓pbi, ↓pgd, ↓aop_build, ↓reduceIte, Nat.reduceEqDiff, Nat.reduceAdd, Nat.reduceMul, Nat.reduceSub, Nat.reduceLT, Nat.reduceLeDiff, reduceCtorEq, Int.reduceToNat])
    | refine cs_reg (by rfl) (fun K Kp hK hKp => ?_)
    | refine cs_drw mixed (by rfl) (by kernel_rfl) (fun K hK => ?_)
    | (refine hK _ _ ?_; try clear hKp; try clear hK; try clear Kp; try clear K)
    | refine cs_cond ?_
    | refine cs_ret (ret_fn ?_)
    | refine cs_scope ?_
    | refine cs_label ?_
    | refine cs_block ?_
    | refine cs_skip ?_
    | refine cs_exit ?_
    | ((first | refine grdO_dec (fun hp => ?_) (fun hp => ?_) | refine grdO_nd (fun hp => ?_) (fun hp => ?_) | refine grdO_nb (fun hp => ?_) (fun hp => ?_) | refine grdO_b (fun hp => ?_) (fun hp => ?_) | refine grdP_dec (fun hp => ?_) (fun hp => ?_) | refine grdP_nd (fun hp => ?_) (fun hp => ?_) | refine grdP_nb (fun hp => ?_) (fun hp => ?_) | refine grdP_b (fun hp => ?_) (fun hp => ?_) | refine condK_d (fun hp => ?_) (fun hp => ?_) | refine condK_nd (fun hp => ?_) (fun hp => ?_) | refine condK_nb (fun hp => ?_) (fun hp => ?_) | refine condK_b (fun hp => ?_) (fun hp => ?_)) <;> first | (exfalso; omega; done) | skip)
    | (with_reducible refine And.intro ?_ ?_; focus (first | omega | (constructor <;> omega) | (have hbits : IntKind.i64.bits = 64 := rfl; omega) | (simp [len_snocC, Int.add_sub_cancel, crow, Int.natCast_add, Int.cast_ofNat_Int, maxLen]; done) | (simp [len_snocC, Int.add_sub_cancel, crow, Int.natCast_add, Int.cast_ofNat_Int, maxLen]; omega)))) <;> try simp (disch := omega) only [push_cast, ↓omv, ↓oas, ↓opk, ↓oal, ↓obx, ↓obd, ↓obs, ↓old, ↓ost, ↓onc, ↓obo, ↓ouo, ↓ocv, ↓omf, ↓oms, ↓osl, ↓ofa, ↓ofd, ↓oia, ↓oix, ↓oex, ↓obi, ↓ogd, ↓pmv, ↓pas, ↓ppk, ↓pal, ↓pbx, ↓pbd, ↓pbs, ↓pld, ↓pst, ↓pnc, ↓pbo, ↓puo, ↓pcv, ↓pmf, ↓pms, ↓psl, ↓pfa, ↓pfd, ↓pia, ↓pix, ↓pex, ↓pbi, ↓pgd, ↓aop_build, ↓reduceIte, Nat.reduceEqDiff, Nat.reduceAdd, Nat.reduceMul, Nat.reduceSub, Nat.reduceLT, Nat.reduceLeDiff, reduceCtorEq, Int.reduceToNat, len_snocC, Int.add_sub_cancel, crow, Int.natCast_add, Int.cast_ofNat_Int, maxLen])

theorem classed_first (lo hi cl : Int) (h0 : ¬ cl = 0) : AMem Try.prog 48 [.arr 49 3 (classR [])] [.ref 0 0, .agg [i64 lo, i64 hi, i64 cl]] (.ref 1 1) [none, some (.arr 49 3 (classR [⟨lo, hi, cl⟩]))] := by
  refine amem_body Try.func48 rfl Try.ntmps48 (by simp) ?_
  rw [Try.results48]
  repeat' ((first
    | refine cs_seq ?_
    | (refine cs_ret (ret_mem 37 (by simp) rfl ?_ ?_ ?_) <;> try simp (disch := omega) only [push_cast, ↓omv, ↓oas, ↓opk, ↓oal, ↓obx, ↓obd, ↓obs, ↓old, ↓ost, ↓onc, ↓obo, ↓ouo, ↓ocv, ↓omf, ↓oms, ↓osl, ↓ofa, ↓ofd, ↓oia, ↓oix, ↓oex, ↓obi, ↓ogd, ↓pmv, ↓pas, ↓ppk, ↓pal, ↓pbx, ↓pbd, ↓pbs, ↓pld, ↓pst, ↓pnc, ↓pbo, ↓puo, ↓pcv, ↓pmf, ↓pms, ↓psl, ↓pfa, ↓pfd, ↓pia, ↓pix, ↓pex, ↓pbi, ↓pgd, ↓aop_build, ↓reduceIte, Nat.reduceEqDiff, Nat.reduceAdd, Nat.reduceMul, Nat.reduceSub, Nat.reduceLT, Nat.reduceLeDiff, reduceCtorEq, Int.reduceToNat])
    | refine cs_reg (by rfl) (fun K Kp hK hKp => ?_)
    | refine cs_drw mixed (by rfl) (by kernel_rfl) (fun K hK => ?_)
    | (refine hK _ _ ?_; try clear hKp; try clear hK; try clear Kp; try clear K)
    | refine cs_cond ?_
    | refine cs_ret (ret_fn ?_)
    | refine cs_scope ?_
    | refine cs_label ?_
    | refine cs_block ?_
    | refine cs_skip ?_
    | refine cs_exit ?_
    | ((first | refine grdO_dec (fun hp => ?_) (fun hp => ?_) | refine grdO_nd (fun hp => ?_) (fun hp => ?_) | refine grdO_nb (fun hp => ?_) (fun hp => ?_) | refine grdO_b (fun hp => ?_) (fun hp => ?_) | refine grdP_dec (fun hp => ?_) (fun hp => ?_) | refine grdP_nd (fun hp => ?_) (fun hp => ?_) | refine grdP_nb (fun hp => ?_) (fun hp => ?_) | refine grdP_b (fun hp => ?_) (fun hp => ?_) | refine condK_d (fun hp => ?_) (fun hp => ?_) | refine condK_nd (fun hp => ?_) (fun hp => ?_) | refine condK_nb (fun hp => ?_) (fun hp => ?_) | refine condK_b (fun hp => ?_) (fun hp => ?_)) <;> first | (exfalso; omega; done) | skip)
    | (with_reducible refine And.intro ?_ ?_; focus (first | omega | (constructor <;> omega) | (have hbits : IntKind.i64.bits = 64 := rfl; omega) | (simp [len_snocC, Int.add_sub_cancel, crow, Int.natCast_add, Int.cast_ofNat_Int, maxLen]; done) | (simp [len_snocC, Int.add_sub_cancel, crow, Int.natCast_add, Int.cast_ofNat_Int, maxLen]; omega)))) <;> try simp (disch := omega) only [push_cast, ↓omv, ↓oas, ↓opk, ↓oal, ↓obx, ↓obd, ↓obs, ↓old, ↓ost, ↓onc, ↓obo, ↓ouo, ↓ocv, ↓omf, ↓oms, ↓osl, ↓ofa, ↓ofd, ↓oia, ↓oix, ↓oex, ↓obi, ↓ogd, ↓pmv, ↓pas, ↓ppk, ↓pal, ↓pbx, ↓pbd, ↓pbs, ↓pld, ↓pst, ↓pnc, ↓pbo, ↓puo, ↓pcv, ↓pmf, ↓pms, ↓psl, ↓pfa, ↓pfd, ↓pia, ↓pix, ↓pex, ↓pbi, ↓pgd, ↓aop_build, ↓reduceIte, Nat.reduceEqDiff, Nat.reduceAdd, Nat.reduceMul, Nat.reduceSub, Nat.reduceLT, Nat.reduceLeDiff, reduceCtorEq, Int.reduceToNat, len_snocC, Int.add_sub_cancel, crow, Int.natCast_add, Int.cast_ofNat_Int, maxLen])
  rfl

theorem classed_fn (l : List Cls) (lo hi cl : Int) (hl : l.length ≤ 1000000000) (hG : ∀ p ∈ l, -1 ≤ p.hi ∧ p.hi ≤ 1000000000) :
    AMem Try.prog 48 [.arr 49 3 (classR l)] [.ref 0 l.length, .agg [i64 lo, i64 hi, i64 cl]] (.ref 1 (clsdS l ⟨lo, hi, cl⟩).length) [none, some (.arr 49 3 (classR (clsdS l ⟨lo, hi, cl⟩)))] := by
  by_cases h0 : cl = 0
  · subst h0
    rw [show clsdS l ⟨lo, hi, 0⟩ = l by unfold clsdS; simp]
    exact classed_none l lo hi
  rcases List.eq_nil_or_concat l with rfl | ⟨l0, p, rfl⟩
  · rw [show clsdS [] ⟨lo, hi, cl⟩ = [⟨lo, hi, cl⟩] by unfold clsdS; simp [h0]]
    exact classed_first lo hi cl h0
  · simp only [List.concat_eq_append] at hG hl ⊢
    have hp := hG p (by simp)
    have hl' : l0.length ≤ 1000000000 := by simp at hl; omega
    by_cases hm : p.hi + 1 = lo ∧ p.cl = cl
    · rw [show clsdS (l0 ++ [p]) ⟨lo, hi, cl⟩ = l0 ++ [⟨p.lo, hi, p.cl⟩] by unfold clsdS; simp [hm, h0]]
      have := classed_more l0 p lo hi cl hl' hp h0 hm.1 hm.2
      simpa using this
    · rw [show clsdS (l0 ++ [p]) ⟨lo, hi, cl⟩ = l0 ++ [p] ++ [⟨lo, hi, cl⟩] by unfold clsdS; simp [hm, h0]]
      have := classed_new l0 p lo hi cl hl' hp h0 hm
      simpa using this
end Go.Proofs.Ytohmjbgcmccplaa
