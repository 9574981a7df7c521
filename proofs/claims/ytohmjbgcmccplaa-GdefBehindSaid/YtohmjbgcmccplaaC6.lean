/- What the readers of segments and of groups tell, whole. No condition. -/
import Derived.Test.YtohmjbgcmccplaaC5
namespace Go.Proofs.Ytohmjbgcmccplaa
open Go Go.Ab
set_option maxRecDepth 100000
set_option linter.unusedSimpArgs false
set_option linter.unusedVariables false

/-- A code table of the format 4. -/
def segmentsS (b : List Int) (glyphs at_ : Int) : Option (List Grp) :=
  match rd b (at_ + 6) 2 with
  | none => none
  | some m => if m % 2 ≠ 0 then none
    else if 0 ≤ at_ + 16 + 2 * (m / 2) ∧ at_ + 16 + 2 * (m / 2) + 3 * (m / 2) * 2 ≤ b.length then segsS b glyphs at_ (m / 2) (m / 2).toNat 0 (-1) [] else none

theorem rd_within {b : List Int} {at_ n x : Int} (h : rd b at_ n = some x) : 0 ≤ at_ ∧ 0 ≤ n ∧ at_ + n ≤ b.length := by
  unfold rd at h
  split at h
  · assumption
  · cases h

theorem segments_fn (b : List Int) (hb : Bytes b) (hl : b.length ≤ 1000000) (glyphs at_ : Int) (hg : 0 ≤ glyphs ∧ glyphs ≤ 65536) (ha : -1000000 ≤ at_ ∧ at_ ≤ 1000000000) (res : Option (List Grp)) (hres : segmentsS b glyphs at_ = res) :
    AMem Try.prog 36 (listCk glyphs []) [.ptr 0 0, bytesA b, i64 at_] (boolA res.isSome) (leaves glyphs res) := by
  have c1 := u16_fn b hb (by omega) (at_ + 6) (by omega) (by omega)
  cases h6 : rd b (at_ + 6) 2 with
  | none =>
    have : res = none := by rw [← hres]; simp [segmentsS, h6]
    subst this
    rw [h6] at c1
    simp only [Option.getD_none, Option.isSome_none] at c1
    refine amem_body Try.func36 rfl Try.ntmps36 (by simp) ?_
    rw [Try.results36]
    repeat' ((first
    | refine cs_seq ?_
    | (refine cs_ret (ret_mem 2 (by simp) rfl ?_ ?_ ?_) <;> try simp (disch := omega) only [push_cast, ↓regO_move, ↓regO_assign, ↓regO_pick, ↓regO_alloc, ↓regO_box, ↓regO_build, ↓regO_buildSlice, ↓regO_load, ↓regO_store, ↓regO_nilCheck, ↓regO_binOp, ↓regO_unOp, ↓regO_convert, ↓regO_makeFunc, ↓regO_makeSlice, ↓regO_slice, ↓regO_fieldAddr, ↓regO_field, ↓regO_indexAddr, ↓regO_index, ↓regO_extract, ↓regO_builtin, ↓regO_grd, ↓regP_move, ↓regP_assign, ↓regP_pick, ↓regP_alloc, ↓regP_box, ↓regP_build, ↓regP_buildSlice, ↓regP_load, ↓regP_store, ↓regP_nilCheck, ↓regP_binOp, ↓regP_unOp, ↓regP_convert, ↓regP_makeFunc, ↓regP_makeSlice, ↓regP_slice, ↓regP_fieldAddr, ↓regP_field, ↓regP_indexAddr, ↓regP_index, ↓regP_extract, ↓regP_builtin, ↓regP_grd, ↓aop_build, ↓reduceIte, List.getD_cons_zero, List.getD_cons_succ, List.getD_nil, implies_true, Nat.reduceEqDiff, Nat.reduceAdd, Nat.reduceMul, Nat.reduceSub, Nat.reduceLT, Nat.reduceLeDiff, reduceCtorEq, decide_true, decide_false, and_self, and_true, true_and, false_and, or_true, true_or, false_or, or_false, Int.ofNat_eq_natCast, ge_iff_le, gt_iff_lt, Int.toNat_natCast, Bool.not_true, Bool.true_and, Bool.and_true, Bool.not_false, Int.reduceToNat, w_i64, w_i32])
    | refine cs_reg (by rfl) (fun K Kp hK hKp => ?_)
    | refine cs_drw mixed (by rfl) (by kernel_rfl) (fun K hK => ?_)
    | (refine hK _ _ ?_; try clear hKp; try clear hK; try clear Kp; try clear K)
    | refine cs_cond ?_
    | refine cs_ret (ret_fn ?_)
    | refine cs_scope ?_
    | refine cs_label ?_
    | refine cs_block ?_
    | refine cs_skip ?_
    | refine cs_exit ?_
    | (refine grdO_dec (fun hp => ?_) (fun hp => ?_) <;> first | (exfalso; omega; done) | skip)
    | (refine grdO_nd (fun hp => ?_) (fun hp => ?_) <;> first | (exfalso; omega; done) | skip)
    | (refine grdO_nb (fun hp => ?_) (fun hp => ?_) <;> first | (exfalso; omega; done) | skip)
    | (refine grdO_b (fun hp => ?_) (fun hp => ?_) <;> first | (exfalso; omega; done) | skip)
    | (refine grdP_dec (fun hp => ?_) (fun hp => ?_) <;> first | (exfalso; omega; done) | skip)
    | (refine grdP_nd (fun hp => ?_) (fun hp => ?_) <;> first | (exfalso; omega; done) | skip)
    | (refine grdP_nb (fun hp => ?_) (fun hp => ?_) <;> first | (exfalso; omega; done) | skip)
    | (refine grdP_b (fun hp => ?_) (fun hp => ?_) <;> first | (exfalso; omega; done) | skip)
    | (refine condK_d (fun hp => ?_) (fun hp => ?_) <;> first | (exfalso; omega; done) | skip)
    | (refine condK_nd (fun hp => ?_) (fun hp => ?_) <;> first | (exfalso; omega; done) | skip)
    | (refine condK_nb (fun hp => ?_) (fun hp => ?_) <;> first | (exfalso; omega; done) | skip)
    | (refine condK_b (fun hp => ?_) (fun hp => ?_) <;> first | (exfalso; omega; done) | skip)
    | (refine regO_call rfl ?_; refine CallK.fn (c1) (by simp only [push_cast]) rfl (by simp only [push_cast, and_self]) (by simp only [push_cast, and_self]) (by simp only [push_cast, ↓reduceIte, Nat.reduceEqDiff, Nat.reduceAdd]) ?_)
    | (with_reducible refine And.intro ?_ ?_; focus (first | omega | (constructor <;> omega) | (have hbits : IntKind.i64.bits = 64 := rfl; omega) | (simp []; done) | (simp []; omega)))) <;> try simp (disch := omega) only [push_cast, ↓regO_move, ↓regO_assign, ↓regO_pick, ↓regO_alloc, ↓regO_box, ↓regO_build, ↓regO_buildSlice, ↓regO_load, ↓regO_store, ↓regO_nilCheck, ↓regO_binOp, ↓regO_unOp, ↓regO_convert, ↓regO_makeFunc, ↓regO_makeSlice, ↓regO_slice, ↓regO_fieldAddr, ↓regO_field, ↓regO_indexAddr, ↓regO_index, ↓regO_extract, ↓regO_builtin, ↓regO_grd, ↓regP_move, ↓regP_assign, ↓regP_pick, ↓regP_alloc, ↓regP_box, ↓regP_build, ↓regP_buildSlice, ↓regP_load, ↓regP_store, ↓regP_nilCheck, ↓regP_binOp, ↓regP_unOp, ↓regP_convert, ↓regP_makeFunc, ↓regP_makeSlice, ↓regP_slice, ↓regP_fieldAddr, ↓regP_field, ↓regP_indexAddr, ↓regP_index, ↓regP_extract, ↓regP_builtin, ↓regP_grd, ↓aop_build, ↓reduceIte, List.getD_cons_zero, List.getD_cons_succ, List.getD_nil, implies_true, Nat.reduceEqDiff, Nat.reduceAdd, Nat.reduceMul, Nat.reduceSub, Nat.reduceLT, Nat.reduceLeDiff, reduceCtorEq, decide_true, decide_false, and_self, and_true, true_and, false_and, or_true, true_or, false_or, or_false, Int.ofNat_eq_natCast, ge_iff_le, gt_iff_lt, Int.toNat_natCast, Bool.not_true, Bool.true_and, Bool.and_true, Bool.not_false, Int.reduceToNat, w_i64, w_i32])
  | some m =>
    have hm := rd2 hb (at_ + 6)
    rw [h6, Option.getD_some] at hm
    have hw := rd_within h6
    rw [h6] at c1
    simp only [Option.getD_some, Option.isSome_some] at c1
    by_cases hodd : m % 2 = 0
    · obtain ⟨n, rfl⟩ : ∃ n : Nat, m = 2 * n := ⟨(m / 2).toNat, by omega⟩
      have e4 : (2 * (n : Int)) / 2 = n := by omega
      by_cases hc : 0 ≤ at_ + 16 + 2 * (n : Int) ∧ at_ + 16 + 2 * (n : Int) + 3 * n * 2 ≤ b.length
      · refine segments_loop b hb (by omega) glyphs at_ n hg ha h6 (by omega) res ?_
        rw [← hres]
        simp only [segmentsS, h6]
        rw [if_neg (by omega), e4, if_pos hc]
        simp
      · have : res = none := by
          rw [← hres]
          simp only [segmentsS, h6]
          rw [if_neg (by omega), e4, if_neg hc]
        subst this
        have e2 : rowS b (at_ + 16 + 2 * n) (3 * n) 2 = none := by
          unfold rowS; rw [if_neg (by omega)]
        have e3 : Int.tmod (2 * (n : Int)) 2 = 0 := by rw [Int.tmod_eq_emod_of_nonneg (by omega)]; omega
        have e4 : Int.tdiv (2 * (n : Int)) 2 = n := by rw [Int.tdiv_eq_ediv_of_nonneg (by omega)]; omega
        have c2 := row_fn b hb (by omega) (at_ + 14) n 2 (by omega) (by omega) (by omega)
        have c3 := row_fn b hb (by omega) (at_ + 16 + 2 * n) (3 * n) 2 (by omega) (by omega) (by omega)
        rw [e2] at c3
        simp only [Option.getD_none, Option.isSome_none] at c3
        refine amem_body Try.func36 rfl Try.ntmps36 (by simp) ?_
        rw [Try.results36]
        repeat' ((first
    | refine cs_seq ?_
    | (refine cs_ret (ret_mem 2 (by simp) rfl ?_ ?_ ?_) <;> try simp (disch := omega) only [push_cast, ↓regO_move, ↓regO_assign, ↓regO_pick, ↓regO_alloc, ↓regO_box, ↓regO_build, ↓regO_buildSlice, ↓regO_load, ↓regO_store, ↓regO_nilCheck, ↓regO_binOp, ↓regO_unOp, ↓regO_convert, ↓regO_makeFunc, ↓regO_makeSlice, ↓regO_slice, ↓regO_fieldAddr, ↓regO_field, ↓regO_indexAddr, ↓regO_index, ↓regO_extract, ↓regO_builtin, ↓regO_grd, ↓regP_move, ↓regP_assign, ↓regP_pick, ↓regP_alloc, ↓regP_box, ↓regP_build, ↓regP_buildSlice, ↓regP_load, ↓regP_store, ↓regP_nilCheck, ↓regP_binOp, ↓regP_unOp, ↓regP_convert, ↓regP_makeFunc, ↓regP_makeSlice, ↓regP_slice, ↓regP_fieldAddr, ↓regP_field, ↓regP_indexAddr, ↓regP_index, ↓regP_extract, ↓regP_builtin, ↓regP_grd, ↓aop_build, ↓reduceIte, List.getD_cons_zero, List.getD_cons_succ, List.getD_nil, implies_true, Nat.reduceEqDiff, Nat.reduceAdd, Nat.reduceMul, Nat.reduceSub, Nat.reduceLT, Nat.reduceLeDiff, reduceCtorEq, decide_true, decide_false, and_self, and_true, true_and, false_and, or_true, true_or, false_or, or_false, Int.ofNat_eq_natCast, ge_iff_le, gt_iff_lt, Int.toNat_natCast, Bool.not_true, Bool.true_and, Bool.and_true, Bool.not_false, Int.reduceToNat, w_i64, w_i32])
    | refine cs_reg (by rfl) (fun K Kp hK hKp => ?_)
    | refine cs_drw mixed (by rfl) (by kernel_rfl) (fun K hK => ?_)
    | (refine hK _ _ ?_; try clear hKp; try clear hK; try clear Kp; try clear K)
    | refine cs_cond ?_
    | refine cs_ret (ret_fn ?_)
    | refine cs_scope ?_
    | refine cs_label ?_
    | refine cs_block ?_
    | refine cs_skip ?_
    | refine cs_exit ?_
    | (refine grdO_dec (fun hp => ?_) (fun hp => ?_) <;> first | (exfalso; omega; done) | skip)
    | (refine grdO_nd (fun hp => ?_) (fun hp => ?_) <;> first | (exfalso; omega; done) | skip)
    | (refine grdO_nb (fun hp => ?_) (fun hp => ?_) <;> first | (exfalso; omega; done) | skip)
    | (refine grdO_b (fun hp => ?_) (fun hp => ?_) <;> first | (exfalso; omega; done) | skip)
    | (refine grdP_dec (fun hp => ?_) (fun hp => ?_) <;> first | (exfalso; omega; done) | skip)
    | (refine grdP_nd (fun hp => ?_) (fun hp => ?_) <;> first | (exfalso; omega; done) | skip)
    | (refine grdP_nb (fun hp => ?_) (fun hp => ?_) <;> first | (exfalso; omega; done) | skip)
    | (refine grdP_b (fun hp => ?_) (fun hp => ?_) <;> first | (exfalso; omega; done) | skip)
    | (refine condK_d (fun hp => ?_) (fun hp => ?_) <;> first | (exfalso; omega; done) | skip)
    | (refine condK_nd (fun hp => ?_) (fun hp => ?_) <;> first | (exfalso; omega; done) | skip)
    | (refine condK_nb (fun hp => ?_) (fun hp => ?_) <;> first | (exfalso; omega; done) | skip)
    | (refine condK_b (fun hp => ?_) (fun hp => ?_) <;> first | (exfalso; omega; done) | skip)
    | (refine regO_call rfl ?_; refine CallK.fn (c1) (by simp only [push_cast]) rfl (by simp only [push_cast, and_self]) (by simp only [push_cast, and_self]) (by simp only [push_cast, ↓reduceIte, Nat.reduceEqDiff, Nat.reduceAdd]) ?_)
    | (refine regO_call rfl ?_; refine CallK.fn (c2) (by simp only [push_cast]) rfl (by simp only [push_cast, and_self]) (by simp only [push_cast, and_self]) (by simp only [push_cast, ↓reduceIte, Nat.reduceEqDiff, Nat.reduceAdd]) ?_)
    | (refine regO_call rfl ?_; refine CallK.fn (c3) (by simp only [push_cast]) rfl (by simp only [push_cast, and_self]) (by simp only [push_cast, and_self]) (by simp only [push_cast, ↓reduceIte, Nat.reduceEqDiff, Nat.reduceAdd]) ?_)
    | (with_reducible refine And.intro ?_ ?_; focus (first | omega | (constructor <;> omega) | (have hbits : IntKind.i64.bits = 64 := rfl; omega) | (simp [e3, e4]; done) | (simp [e3, e4]; omega)))) <;> try simp (disch := omega) only [push_cast, ↓regO_move, ↓regO_assign, ↓regO_pick, ↓regO_alloc, ↓regO_box, ↓regO_build, ↓regO_buildSlice, ↓regO_load, ↓regO_store, ↓regO_nilCheck, ↓regO_binOp, ↓regO_unOp, ↓regO_convert, ↓regO_makeFunc, ↓regO_makeSlice, ↓regO_slice, ↓regO_fieldAddr, ↓regO_field, ↓regO_indexAddr, ↓regO_index, ↓regO_extract, ↓regO_builtin, ↓regO_grd, ↓regP_move, ↓regP_assign, ↓regP_pick, ↓regP_alloc, ↓regP_box, ↓regP_build, ↓regP_buildSlice, ↓regP_load, ↓regP_store, ↓regP_nilCheck, ↓regP_binOp, ↓regP_unOp, ↓regP_convert, ↓regP_makeFunc, ↓regP_makeSlice, ↓regP_slice, ↓regP_fieldAddr, ↓regP_field, ↓regP_indexAddr, ↓regP_index, ↓regP_extract, ↓regP_builtin, ↓regP_grd, ↓aop_build, ↓reduceIte, List.getD_cons_zero, List.getD_cons_succ, List.getD_nil, implies_true, Nat.reduceEqDiff, Nat.reduceAdd, Nat.reduceMul, Nat.reduceSub, Nat.reduceLT, Nat.reduceLeDiff, reduceCtorEq, decide_true, decide_false, and_self, and_true, true_and, false_and, or_true, true_or, false_or, or_false, Int.ofNat_eq_natCast, ge_iff_le, gt_iff_lt, Int.toNat_natCast, Bool.not_true, Bool.true_and, Bool.and_true, Bool.not_false, Int.reduceToNat, w_i64, w_i32, e3, e4])
    · have : res = none := by
        rw [← hres]
        simp only [segmentsS, h6]
        rw [if_pos hodd]
      subst this
      have e3 : Int.tmod m 2 = m % 2 := Int.tmod_eq_emod_of_nonneg (by omega)
      refine amem_body Try.func36 rfl Try.ntmps36 (by simp) ?_
      rw [Try.results36]
      repeat' ((first
    | refine cs_seq ?_
    | (refine cs_ret (ret_mem 2 (by simp) rfl ?_ ?_ ?_) <;> try simp (disch := omega) only [push_cast, ↓regO_move, ↓regO_assign, ↓regO_pick, ↓regO_alloc, ↓regO_box, ↓regO_build, ↓regO_buildSlice, ↓regO_load, ↓regO_store, ↓regO_nilCheck, ↓regO_binOp, ↓regO_unOp, ↓regO_convert, ↓regO_makeFunc, ↓regO_makeSlice, ↓regO_slice, ↓regO_fieldAddr, ↓regO_field, ↓regO_indexAddr, ↓regO_index, ↓regO_extract, ↓regO_builtin, ↓regO_grd, ↓regP_move, ↓regP_assign, ↓regP_pick, ↓regP_alloc, ↓regP_box, ↓regP_build, ↓regP_buildSlice, ↓regP_load, ↓regP_store, ↓regP_nilCheck, ↓regP_binOp, ↓regP_unOp, ↓regP_convert, ↓regP_makeFunc, ↓regP_makeSlice, ↓regP_slice, ↓regP_fieldAddr, ↓regP_field, ↓regP_indexAddr, ↓regP_index, ↓regP_extract, ↓regP_builtin, ↓regP_grd, ↓aop_build, ↓reduceIte, List.getD_cons_zero, List.getD_cons_succ, List.getD_nil, implies_true, Nat.reduceEqDiff, Nat.reduceAdd, Nat.reduceMul, Nat.reduceSub, Nat.reduceLT, Nat.reduceLeDiff, reduceCtorEq, decide_true, decide_false, and_self, and_true, true_and, false_and, or_true, true_or, false_or, or_false, Int.ofNat_eq_natCast, ge_iff_le, gt_iff_lt, Int.toNat_natCast, Bool.not_true, Bool.true_and, Bool.and_true, Bool.not_false, Int.reduceToNat, w_i64, w_i32])
    | refine cs_reg (by rfl) (fun K Kp hK hKp => ?_)
    | refine cs_drw mixed (by rfl) (by kernel_rfl) (fun K hK => ?_)
    | (refine hK _ _ ?_; try clear hKp; try clear hK; try clear Kp; try clear K)
    | refine cs_cond ?_
    | refine cs_ret (ret_fn ?_)
    | refine cs_scope ?_
    | refine cs_label ?_
    | refine cs_block ?_
    | refine cs_skip ?_
    | refine cs_exit ?_
    | (refine grdO_dec (fun hp => ?_) (fun hp => ?_) <;> first | (exfalso; omega; done) | skip)
    | (refine grdO_nd (fun hp => ?_) (fun hp => ?_) <;> first | (exfalso; omega; done) | skip)
    | (refine grdO_nb (fun hp => ?_) (fun hp => ?_) <;> first | (exfalso; omega; done) | skip)
    | (refine grdO_b (fun hp => ?_) (fun hp => ?_) <;> first | (exfalso; omega; done) | skip)
    | (refine grdP_dec (fun hp => ?_) (fun hp => ?_) <;> first | (exfalso; omega; done) | skip)
    | (refine grdP_nd (fun hp => ?_) (fun hp => ?_) <;> first | (exfalso; omega; done) | skip)
    | (refine grdP_nb (fun hp => ?_) (fun hp => ?_) <;> first | (exfalso; omega; done) | skip)
    | (refine grdP_b (fun hp => ?_) (fun hp => ?_) <;> first | (exfalso; omega; done) | skip)
    | (refine condK_d (fun hp => ?_) (fun hp => ?_) <;> first | (exfalso; omega; done) | skip)
    | (refine condK_nd (fun hp => ?_) (fun hp => ?_) <;> first | (exfalso; omega; done) | skip)
    | (refine condK_nb (fun hp => ?_) (fun hp => ?_) <;> first | (exfalso; omega; done) | skip)
    | (refine condK_b (fun hp => ?_) (fun hp => ?_) <;> first | (exfalso; omega; done) | skip)
    | (refine regO_call rfl ?_; refine CallK.fn (c1) (by simp only [push_cast]) rfl (by simp only [push_cast, and_self]) (by simp only [push_cast, and_self]) (by simp only [push_cast, ↓reduceIte, Nat.reduceEqDiff, Nat.reduceAdd]) ?_)
    | (with_reducible refine And.intro ?_ ?_; focus (first | omega | (constructor <;> omega) | (have hbits : IntKind.i64.bits = 64 := rfl; omega) | (simp [e3, hodd]; done) | (simp [e3, hodd]; omega)))) <;> try simp (disch := omega) only [push_cast, ↓regO_move, ↓regO_assign, ↓regO_pick, ↓regO_alloc, ↓regO_box, ↓regO_build, ↓regO_buildSlice, ↓regO_load, ↓regO_store, ↓regO_nilCheck, ↓regO_binOp, ↓regO_unOp, ↓regO_convert, ↓regO_makeFunc, ↓regO_makeSlice, ↓regO_slice, ↓regO_fieldAddr, ↓regO_field, ↓regO_indexAddr, ↓regO_index, ↓regO_extract, ↓regO_builtin, ↓regO_grd, ↓regP_move, ↓regP_assign, ↓regP_pick, ↓regP_alloc, ↓regP_box, ↓regP_build, ↓regP_buildSlice, ↓regP_load, ↓regP_store, ↓regP_nilCheck, ↓regP_binOp, ↓regP_unOp, ↓regP_convert, ↓regP_makeFunc, ↓regP_makeSlice, ↓regP_slice, ↓regP_fieldAddr, ↓regP_field, ↓regP_indexAddr, ↓regP_index, ↓regP_extract, ↓regP_builtin, ↓regP_grd, ↓aop_build, ↓reduceIte, List.getD_cons_zero, List.getD_cons_succ, List.getD_nil, implies_true, Nat.reduceEqDiff, Nat.reduceAdd, Nat.reduceMul, Nat.reduceSub, Nat.reduceLT, Nat.reduceLeDiff, reduceCtorEq, decide_true, decide_false, and_self, and_true, true_and, false_and, or_true, true_or, false_or, or_false, Int.ofNat_eq_natCast, ge_iff_le, gt_iff_lt, Int.toNat_natCast, Bool.not_true, Bool.true_and, Bool.and_true, Bool.not_false, Int.reduceToNat, w_i64, w_i32, e3, hodd])
end Go.Proofs.Ytohmjbgcmccplaa
