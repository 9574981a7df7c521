/- The law that groups are rising: it tells true. No condition. -/
import Derived.Test.YtohmjbgcmccplaaC17
import Derived.Test.YtohmjbgcmccplaaL1
namespace Go.Proofs.Ytohmjbgcmccplaa
open Go Go.Ab
set_option maxRecDepth 100000
set_option maxHeartbeats 4000000
set_option linter.unusedSimpArgs false
set_option linter.unusedVariables false

theorem may_fn (b : List Int) (hl : b.length ≤ 9223372036854775807) (hb : Bytes b) (at_ glyphs : Int) (ha : I64 at_) (hg : I64 glyphs) :
    AFun Try.prog 5 [bytesA b, i64 at_, i64 glyphs] (boolA true) := by
  have c0 := alive_fn
  obtain ⟨y1, y2⟩ := hg
  obtain ⟨x1, x2⟩ := ha
  refine acalls_body Try.func5 rfl Try.ntmps5 (by simp) ?_
  rw [Try.results5]
  by_cases h1 : b.length ≤ 1000
  case neg => repeat' ((first
    | refine cs_seq ?_
    | refine cs_reg (by rfl) (fun K Kp hK hKp => ?_)
    | refine cs_drw mixed (by rfl) (by kernel_rfl) (fun K hK => ?_)
    | (refine hK _ _ ?_; try clear hKp; try clear hK; try clear Kp; try clear K)
    | refine cs_cond ?_
    | refine cs_ret (ret_fn ?_)
    | refine cs_scope ?_
    | refine cs_label ?_
    | refine cs_block ?_
    | refine cs_skip ?_
    | refine cs_exit ?_
    | (refine grdO_dec (fun hp => ?_) (fun hp => ?_) <;> first | (exfalso; omega; done) | skip)
    | (refine grdO_nd (fun hp => ?_) (fun hp => ?_) <;> first | (exfalso; omega; done) | skip)
    | (refine grdO_nb (fun hp => ?_) (fun hp => ?_) <;> first | (exfalso; omega; done) | skip)
    | (refine grdO_b (fun hp => ?_) (fun hp => ?_) <;> first | (exfalso; omega; done) | skip)
    | (refine grdP_dec (fun hp => ?_) (fun hp => ?_) <;> first | (exfalso; omega; done) | skip)
    | (refine grdP_nd (fun hp => ?_) (fun hp => ?_) <;> first | (exfalso; omega; done) | skip)
    | (refine grdP_nb (fun hp => ?_) (fun hp => ?_) <;> first | (exfalso; omega; done) | skip)
    | (refine grdP_b (fun hp => ?_) (fun hp => ?_) <;> first | (exfalso; omega; done) | skip)
    | (refine condK_d (fun hp => ?_) (fun hp => ?_) <;> first | (exfalso; omega; done) | skip)
    | (refine condK_nd (fun hp => ?_) (fun hp => ?_) <;> first | (exfalso; omega; done) | skip)
    | (refine condK_nb (fun hp => ?_) (fun hp => ?_) <;> first | (exfalso; omega; done) | skip)
    | (refine condK_b (fun hp => ?_) (fun hp => ?_) <;> first | (exfalso; omega; done) | skip)
    | (refine regO_call rfl ?_; refine CallK.fn (c0) (by simp only [push_cast]) rfl (by simp only [push_cast, and_self]) (by simp only [push_cast, and_self]) (by simp only [push_cast, ↓reduceIte, Nat.reduceEqDiff, Nat.reduceAdd]) ?_)
    | (with_reducible refine And.intro ?_ ?_; focus (first | omega | (constructor <;> omega) | (have hbits : IntKind.i64.bits = 64 := rfl; omega) | (simp []; done) | (simp []; omega)))) <;> try simp (disch := omega) only [push_cast, ↓regO_move, ↓regO_assign, ↓regO_pick, ↓regO_alloc, ↓regO_box, ↓regO_build, ↓regO_buildSlice, ↓regO_load, ↓regO_store, ↓regO_nilCheck, ↓regO_binOp, ↓regO_unOp, ↓regO_convert, ↓regO_makeFunc, ↓regO_makeSlice, ↓regO_slice, ↓regO_fieldAddr, ↓regO_field, ↓regO_indexAddr, ↓regO_index, ↓regO_extract, ↓regO_builtin, ↓regO_grd, ↓regP_move, ↓regP_assign, ↓regP_pick, ↓regP_alloc, ↓regP_box, ↓regP_build, ↓regP_buildSlice, ↓regP_load, ↓regP_store, ↓regP_nilCheck, ↓regP_binOp, ↓regP_unOp, ↓regP_convert, ↓regP_makeFunc, ↓regP_makeSlice, ↓regP_slice, ↓regP_fieldAddr, ↓regP_field, ↓regP_indexAddr, ↓regP_index, ↓regP_extract, ↓regP_builtin, ↓regP_grd, ↓aop_build, ↓reduceIte, List.getD_cons_zero, List.getD_cons_succ, List.getD_nil, implies_true, Nat.reduceEqDiff, Nat.reduceAdd, Nat.reduceMul, Nat.reduceSub, Nat.reduceLT, Nat.reduceLeDiff, reduceCtorEq, decide_true, decide_false, and_self, and_true, true_and, false_and, or_true, true_or, false_or, or_false, Int.ofNat_eq_natCast, ge_iff_le, gt_iff_lt, Int.toNat_natCast, Bool.not_true, Bool.true_and, Bool.and_true, Bool.not_false, Int.reduceToNat, w_i64, w_i32])
  by_cases h2 : at_ ≤ 1000
  case neg => repeat' ((first
    | refine cs_seq ?_
    | refine cs_reg (by rfl) (fun K Kp hK hKp => ?_)
    | refine cs_drw mixed (by rfl) (by kernel_rfl) (fun K hK => ?_)
    | (refine hK _ _ ?_; try clear hKp; try clear hK; try clear Kp; try clear K)
    | refine cs_cond ?_
    | refine cs_ret (ret_fn ?_)
    | refine cs_scope ?_
    | refine cs_label ?_
    | refine cs_block ?_
    | refine cs_skip ?_
    | refine cs_exit ?_
    | (refine grdO_dec (fun hp => ?_) (fun hp => ?_) <;> first | (exfalso; omega; done) | skip)
    | (refine grdO_nd (fun hp => ?_) (fun hp => ?_) <;> first | (exfalso; omega; done) | skip)
    | (refine grdO_nb (fun hp => ?_) (fun hp => ?_) <;> first | (exfalso; omega; done) | skip)
    | (refine grdO_b (fun hp => ?_) (fun hp => ?_) <;> first | (exfalso; omega; done) | skip)
    | (refine grdP_dec (fun hp => ?_) (fun hp => ?_) <;> first | (exfalso; omega; done) | skip)
    | (refine grdP_nd (fun hp => ?_) (fun hp => ?_) <;> first | (exfalso; omega; done) | skip)
    | (refine grdP_nb (fun hp => ?_) (fun hp => ?_) <;> first | (exfalso; omega; done) | skip)
    | (refine grdP_b (fun hp => ?_) (fun hp => ?_) <;> first | (exfalso; omega; done) | skip)
    | (refine condK_d (fun hp => ?_) (fun hp => ?_) <;> first | (exfalso; omega; done) | skip)
    | (refine condK_nd (fun hp => ?_) (fun hp => ?_) <;> first | (exfalso; omega; done) | skip)
    | (refine condK_nb (fun hp => ?_) (fun hp => ?_) <;> first | (exfalso; omega; done) | skip)
    | (refine condK_b (fun hp => ?_) (fun hp => ?_) <;> first | (exfalso; omega; done) | skip)
    | (refine regO_call rfl ?_; refine CallK.fn (c0) (by simp only [push_cast]) rfl (by simp only [push_cast, and_self]) (by simp only [push_cast, and_self]) (by simp only [push_cast, ↓reduceIte, Nat.reduceEqDiff, Nat.reduceAdd]) ?_)
    | (with_reducible refine And.intro ?_ ?_; focus (first | omega | (constructor <;> omega) | (have hbits : IntKind.i64.bits = 64 := rfl; omega) | (simp []; done) | (simp []; omega)))) <;> try simp (disch := omega) only [push_cast, ↓regO_move, ↓regO_assign, ↓regO_pick, ↓regO_alloc, ↓regO_box, ↓regO_build, ↓regO_buildSlice, ↓regO_load, ↓regO_store, ↓regO_nilCheck, ↓regO_binOp, ↓regO_unOp, ↓regO_convert, ↓regO_makeFunc, ↓regO_makeSlice, ↓regO_slice, ↓regO_fieldAddr, ↓regO_field, ↓regO_indexAddr, ↓regO_index, ↓regO_extract, ↓regO_builtin, ↓regO_grd, ↓regP_move, ↓regP_assign, ↓regP_pick, ↓regP_alloc, ↓regP_box, ↓regP_build, ↓regP_buildSlice, ↓regP_load, ↓regP_store, ↓regP_nilCheck, ↓regP_binOp, ↓regP_unOp, ↓regP_convert, ↓regP_makeFunc, ↓regP_makeSlice, ↓regP_slice, ↓regP_fieldAddr, ↓regP_field, ↓regP_indexAddr, ↓regP_index, ↓regP_extract, ↓regP_builtin, ↓regP_grd, ↓aop_build, ↓reduceIte, List.getD_cons_zero, List.getD_cons_succ, List.getD_nil, implies_true, Nat.reduceEqDiff, Nat.reduceAdd, Nat.reduceMul, Nat.reduceSub, Nat.reduceLT, Nat.reduceLeDiff, reduceCtorEq, decide_true, decide_false, and_self, and_true, true_and, false_and, or_true, true_or, false_or, or_false, Int.ofNat_eq_natCast, ge_iff_le, gt_iff_lt, Int.toNat_natCast, Bool.not_true, Bool.true_and, Bool.and_true, Bool.not_false, Int.reduceToNat, w_i64, w_i32])
  by_cases h3 : -1000 ≤ at_
  case neg => repeat' ((first
    | refine cs_seq ?_
    | refine cs_reg (by rfl) (fun K Kp hK hKp => ?_)
    | refine cs_drw mixed (by rfl) (by kernel_rfl) (fun K hK => ?_)
    | (refine hK _ _ ?_; try clear hKp; try clear hK; try clear Kp; try clear K)
    | refine cs_cond ?_
    | refine cs_ret (ret_fn ?_)
    | refine cs_scope ?_
    | refine cs_label ?_
    | refine cs_block ?_
    | refine cs_skip ?_
    | refine cs_exit ?_
    | (refine grdO_dec (fun hp => ?_) (fun hp => ?_) <;> first | (exfalso; omega; done) | skip)
    | (refine grdO_nd (fun hp => ?_) (fun hp => ?_) <;> first | (exfalso; omega; done) | skip)
    | (refine grdO_nb (fun hp => ?_) (fun hp => ?_) <;> first | (exfalso; omega; done) | skip)
    | (refine grdO_b (fun hp => ?_) (fun hp => ?_) <;> first | (exfalso; omega; done) | skip)
    | (refine grdP_dec (fun hp => ?_) (fun hp => ?_) <;> first | (exfalso; omega; done) | skip)
    | (refine grdP_nd (fun hp => ?_) (fun hp => ?_) <;> first | (exfalso; omega; done) | skip)
    | (refine grdP_nb (fun hp => ?_) (fun hp => ?_) <;> first | (exfalso; omega; done) | skip)
    | (refine grdP_b (fun hp => ?_) (fun hp => ?_) <;> first | (exfalso; omega; done) | skip)
    | (refine condK_d (fun hp => ?_) (fun hp => ?_) <;> first | (exfalso; omega; done) | skip)
    | (refine condK_nd (fun hp => ?_) (fun hp => ?_) <;> first | (exfalso; omega; done) | skip)
    | (refine condK_nb (fun hp => ?_) (fun hp => ?_) <;> first | (exfalso; omega; done) | skip)
    | (refine condK_b (fun hp => ?_) (fun hp => ?_) <;> first | (exfalso; omega; done) | skip)
    | (refine regO_call rfl ?_; refine CallK.fn (c0) (by simp only [push_cast]) rfl (by simp only [push_cast, and_self]) (by simp only [push_cast, and_self]) (by simp only [push_cast, ↓reduceIte, Nat.reduceEqDiff, Nat.reduceAdd]) ?_)
    | (with_reducible refine And.intro ?_ ?_; focus (first | omega | (constructor <;> omega) | (have hbits : IntKind.i64.bits = 64 := rfl; omega) | (simp []; done) | (simp []; omega)))) <;> try simp (disch := omega) only [push_cast, ↓regO_move, ↓regO_assign, ↓regO_pick, ↓regO_alloc, ↓regO_box, ↓regO_build, ↓regO_buildSlice, ↓regO_load, ↓regO_store, ↓regO_nilCheck, ↓regO_binOp, ↓regO_unOp, ↓regO_convert, ↓regO_makeFunc, ↓regO_makeSlice, ↓regO_slice, ↓regO_fieldAddr, ↓regO_field, ↓regO_indexAddr, ↓regO_index, ↓regO_extract, ↓regO_builtin, ↓regO_grd, ↓regP_move, ↓regP_assign, ↓regP_pick, ↓regP_alloc, ↓regP_box, ↓regP_build, ↓regP_buildSlice, ↓regP_load, ↓regP_store, ↓regP_nilCheck, ↓regP_binOp, ↓regP_unOp, ↓regP_convert, ↓regP_makeFunc, ↓regP_makeSlice, ↓regP_slice, ↓regP_fieldAddr, ↓regP_field, ↓regP_indexAddr, ↓regP_index, ↓regP_extract, ↓regP_builtin, ↓regP_grd, ↓aop_build, ↓reduceIte, List.getD_cons_zero, List.getD_cons_succ, List.getD_nil, implies_true, Nat.reduceEqDiff, Nat.reduceAdd, Nat.reduceMul, Nat.reduceSub, Nat.reduceLT, Nat.reduceLeDiff, reduceCtorEq, decide_true, decide_false, and_self, and_true, true_and, false_and, or_true, true_or, false_or, or_false, Int.ofNat_eq_natCast, ge_iff_le, gt_iff_lt, Int.toNat_natCast, Bool.not_true, Bool.true_and, Bool.and_true, Bool.not_false, Int.reduceToNat, w_i64, w_i32])
  have c1 := codes_fn b hb (by omega) at_ glyphs (by omega)
  obtain ⟨l, ok, c2, hM, hok⟩ : ∃ l ok, AFun Try.prog 19 [bytesA b, i64 at_, i64 glyphs] (.tup [.p (.fro (groupR l)), boolA ok]) ∧ MayL glyphs l ∧ (ok = false → l.length = 0) := by
    cases hs : codesS b at_ glyphs with
    | none =>
      rw [hs] at c1
      exact ⟨[], false, c1, mayL_nil _, fun _ => rfl⟩
    | some l =>
      rw [hs] at c1
      exact ⟨l, true, c1, codes_may hb hs, fun h => by cases h⟩
  have hlen := mayL_len hM
  cases ok
  case' false => have hl0 := hok rfl
  all_goals
    repeat' ((first
    | refine cs_seq ?_
    | refine cs_reg (by rfl) (fun K Kp hK hKp => ?_)
    | refine cs_drw mixed (by rfl) (by kernel_rfl) (fun K hK => ?_)
    | (refine hK _ _ ?_; try clear hKp; try clear hK; try clear Kp; try clear K)
    | refine cs_cond ?_
    | refine cs_ret (ret_fn ?_)
    | refine cs_scope ?_
    | refine cs_label ?_
    | refine cs_block ?_
    | refine cs_skip ?_
    | refine cs_exit ?_
    | (refine grdO_dec (fun hp => ?_) (fun hp => ?_) <;> first | (exfalso; omega; done) | skip)
    | (refine grdO_nd (fun hp => ?_) (fun hp => ?_) <;> first | (exfalso; omega; done) | skip)
    | (refine grdO_nb (fun hp => ?_) (fun hp => ?_) <;> first | (exfalso; omega; done) | skip)
    | (refine grdO_b (fun hp => ?_) (fun hp => ?_) <;> first | (exfalso; omega; done) | skip)
    | (refine grdP_dec (fun hp => ?_) (fun hp => ?_) <;> first | (exfalso; omega; done) | skip)
    | (refine grdP_nd (fun hp => ?_) (fun hp => ?_) <;> first | (exfalso; omega; done) | skip)
    | (refine grdP_nb (fun hp => ?_) (fun hp => ?_) <;> first | (exfalso; omega; done) | skip)
    | (refine grdP_b (fun hp => ?_) (fun hp => ?_) <;> first | (exfalso; omega; done) | skip)
    | (refine condK_d (fun hp => ?_) (fun hp => ?_) <;> first | (exfalso; omega; done) | skip)
    | (refine condK_nd (fun hp => ?_) (fun hp => ?_) <;> first | (exfalso; omega; done) | skip)
    | (refine condK_nb (fun hp => ?_) (fun hp => ?_) <;> first | (exfalso; omega; done) | skip)
    | (refine condK_b (fun hp => ?_) (fun hp => ?_) <;> first | (exfalso; omega; done) | skip)
    | (refine regO_call rfl ?_; refine CallK.fn (c0) (by simp only [push_cast]) rfl (by simp only [push_cast, and_self]) (by simp only [push_cast, and_self]) (by simp only [push_cast, ↓reduceIte, Nat.reduceEqDiff, Nat.reduceAdd]) ?_)
    | (refine regO_call rfl ?_; refine CallK.fn (c2) (by simp only [push_cast]) rfl (by simp only [push_cast, and_self]) (by simp only [push_cast, and_self]) (by simp only [push_cast, ↓reduceIte, Nat.reduceEqDiff, Nat.reduceAdd]) ?_)
    | (with_reducible refine And.intro ?_ ?_; focus (first | omega | (constructor <;> omega) | (have hbits : IntKind.i64.bits = 64 := rfl; omega) | (simp []; done) | (simp []; omega)))) <;> try simp (disch := omega) only [push_cast, ↓regO_move, ↓regO_assign, ↓regO_pick, ↓regO_alloc, ↓regO_box, ↓regO_build, ↓regO_buildSlice, ↓regO_load, ↓regO_store, ↓regO_nilCheck, ↓regO_binOp, ↓regO_unOp, ↓regO_convert, ↓regO_makeFunc, ↓regO_makeSlice, ↓regO_slice, ↓regO_fieldAddr, ↓regO_field, ↓regO_indexAddr, ↓regO_index, ↓regO_extract, ↓regO_builtin, ↓regO_grd, ↓regP_move, ↓regP_assign, ↓regP_pick, ↓regP_alloc, ↓regP_box, ↓regP_build, ↓regP_buildSlice, ↓regP_load, ↓regP_store, ↓regP_nilCheck, ↓regP_binOp, ↓regP_unOp, ↓regP_convert, ↓regP_makeFunc, ↓regP_makeSlice, ↓regP_slice, ↓regP_fieldAddr, ↓regP_field, ↓regP_indexAddr, ↓regP_index, ↓regP_extract, ↓regP_builtin, ↓regP_grd, ↓aop_build, ↓reduceIte, List.getD_cons_zero, List.getD_cons_succ, List.getD_nil, implies_true, Nat.reduceEqDiff, Nat.reduceAdd, Nat.reduceMul, Nat.reduceSub, Nat.reduceLT, Nat.reduceLeDiff, reduceCtorEq, decide_true, decide_false, and_self, and_true, true_and, false_and, or_true, true_or, false_or, or_false, Int.ofNat_eq_natCast, ge_iff_le, gt_iff_lt, Int.toNat_natCast, Bool.not_true, Bool.true_and, Bool.and_true, Bool.not_false, Int.reduceToNat, w_i64, w_i32])
  all_goals
    refine cs_lp (ι := Nat) (fun k => [(2, i64 glyphs), (7, .p (.fro (groupR l))), (9, i64 k)]) (fun _ => []) 0 (fun k => k ≤ l.length) (fun k => l.length - k) 0 (by omega) ⟨ofL [], .ofL, ?_, trivial⟩ ?_
    · try simp (disch := omega) only [push_cast, ↓regO_move, ↓regO_assign, ↓regO_pick, ↓regO_alloc, ↓regO_box, ↓regO_build, ↓regO_buildSlice, ↓regO_load, ↓regO_store, ↓regO_nilCheck, ↓regO_binOp, ↓regO_unOp, ↓regO_convert, ↓regO_makeFunc, ↓regO_makeSlice, ↓regO_slice, ↓regO_fieldAddr, ↓regO_field, ↓regO_indexAddr, ↓regO_index, ↓regO_extract, ↓regO_builtin, ↓regO_grd, ↓regP_move, ↓regP_assign, ↓regP_pick, ↓regP_alloc, ↓regP_box, ↓regP_build, ↓regP_buildSlice, ↓regP_load, ↓regP_store, ↓regP_nilCheck, ↓regP_binOp, ↓regP_unOp, ↓regP_convert, ↓regP_makeFunc, ↓regP_makeSlice, ↓regP_slice, ↓regP_fieldAddr, ↓regP_field, ↓regP_indexAddr, ↓regP_index, ↓regP_extract, ↓regP_builtin, ↓regP_grd, ↓aop_build, ↓reduceIte, List.getD_cons_zero, List.getD_cons_succ, List.getD_nil, implies_true, Nat.reduceEqDiff, Nat.reduceAdd, Nat.reduceMul, Nat.reduceSub, Nat.reduceLT, Nat.reduceLeDiff, reduceCtorEq, decide_true, decide_false, and_self, and_true, true_and, false_and, or_true, true_or, false_or, or_false, Int.ofNat_eq_natCast, ge_iff_le, gt_iff_lt, Int.toNat_natCast, Bool.not_true, Bool.true_and, Bool.and_true, Bool.not_false, Int.reduceToNat, w_i64, w_i32, Int.natCast_zero]
    intro k hk1
    by_cases hk : k < l.length
    · obtain ⟨g1, g2, g3, g4, g5⟩ := hM.1 k hk
      cases k with
      | zero =>
        repeat' ((first
    | refine cs_seq ?_
    | refine cs_reg (by rfl) (fun K Kp hK hKp => ?_)
    | refine cs_drw mixed (by rfl) (by kernel_rfl) (fun K hK => ?_)
    | (refine hK _ _ ?_; try clear hKp; try clear hK; try clear Kp; try clear K)
    | refine cs_cond ?_
    | refine cs_ret (ret_fn ?_)
    | refine cs_scope ?_
    | refine cs_label ?_
    | refine cs_block ?_
    | refine cs_skip ?_
    | refine cs_exit ?_
    | (refine grdO_dec (fun hp => ?_) (fun hp => ?_) <;> first | (exfalso; omega; done) | skip)
    | (refine grdO_nd (fun hp => ?_) (fun hp => ?_) <;> first | (exfalso; omega; done) | skip)
    | (refine grdO_nb (fun hp => ?_) (fun hp => ?_) <;> first | (exfalso; omega; done) | skip)
    | (refine grdO_b (fun hp => ?_) (fun hp => ?_) <;> first | (exfalso; omega; done) | skip)
    | (refine grdP_dec (fun hp => ?_) (fun hp => ?_) <;> first | (exfalso; omega; done) | skip)
    | (refine grdP_nd (fun hp => ?_) (fun hp => ?_) <;> first | (exfalso; omega; done) | skip)
    | (refine grdP_nb (fun hp => ?_) (fun hp => ?_) <;> first | (exfalso; omega; done) | skip)
    | (refine grdP_b (fun hp => ?_) (fun hp => ?_) <;> first | (exfalso; omega; done) | skip)
    | (refine condK_d (fun hp => ?_) (fun hp => ?_) <;> first | (exfalso; omega; done) | skip)
    | (refine condK_nd (fun hp => ?_) (fun hp => ?_) <;> first | (exfalso; omega; done) | skip)
    | (refine condK_nb (fun hp => ?_) (fun hp => ?_) <;> first | (exfalso; omega; done) | skip)
    | (refine condK_b (fun hp => ?_) (fun hp => ?_) <;> first | (exfalso; omega; done) | skip)
    | (with_reducible refine And.intro ?_ ?_; focus (first | omega | (constructor <;> omega) | (have hbits : IntKind.i64.bits = 64 := rfl; omega) | (simp [groupR_at, grow, Int.natCast_zero]; done) | (simp [groupR_at, grow, Int.natCast_zero]; omega)))) <;> try simp (disch := omega) only [push_cast, ↓regO_move, ↓regO_assign, ↓regO_pick, ↓regO_alloc, ↓regO_box, ↓regO_build, ↓regO_buildSlice, ↓regO_load, ↓regO_store, ↓regO_nilCheck, ↓regO_binOp, ↓regO_unOp, ↓regO_convert, ↓regO_makeFunc, ↓regO_makeSlice, ↓regO_slice, ↓regO_fieldAddr, ↓regO_field, ↓regO_indexAddr, ↓regO_index, ↓regO_extract, ↓regO_builtin, ↓regO_grd, ↓regP_move, ↓regP_assign, ↓regP_pick, ↓regP_alloc, ↓regP_box, ↓regP_build, ↓regP_buildSlice, ↓regP_load, ↓regP_store, ↓regP_nilCheck, ↓regP_binOp, ↓regP_unOp, ↓regP_convert, ↓regP_makeFunc, ↓regP_makeSlice, ↓regP_slice, ↓regP_fieldAddr, ↓regP_field, ↓regP_indexAddr, ↓regP_index, ↓regP_extract, ↓regP_builtin, ↓regP_grd, ↓aop_build, ↓reduceIte, List.getD_cons_zero, List.getD_cons_succ, List.getD_nil, implies_true, Nat.reduceEqDiff, Nat.reduceAdd, Nat.reduceMul, Nat.reduceSub, Nat.reduceLT, Nat.reduceLeDiff, reduceCtorEq, decide_true, decide_false, and_self, and_true, true_and, false_and, or_true, true_or, false_or, or_false, Int.ofNat_eq_natCast, ge_iff_le, gt_iff_lt, Int.toNat_natCast, Bool.not_true, Bool.true_and, Bool.and_true, Bool.not_false, Int.reduceToNat, w_i64, w_i32, groupR_at, grow, Int.natCast_zero])
        all_goals (
          refine Again.intro 1 (by omega) (by omega) (ofL []) .ofL ?_ trivial
          try simp (disch := omega) only [push_cast, ↓regO_move, ↓regO_assign, ↓regO_pick, ↓regO_alloc, ↓regO_box, ↓regO_build, ↓regO_buildSlice, ↓regO_load, ↓regO_store, ↓regO_nilCheck, ↓regO_binOp, ↓regO_unOp, ↓regO_convert, ↓regO_makeFunc, ↓regO_makeSlice, ↓regO_slice, ↓regO_fieldAddr, ↓regO_field, ↓regO_indexAddr, ↓regO_index, ↓regO_extract, ↓regO_builtin, ↓regO_grd, ↓regP_move, ↓regP_assign, ↓regP_pick, ↓regP_alloc, ↓regP_box, ↓regP_build, ↓regP_buildSlice, ↓regP_load, ↓regP_store, ↓regP_nilCheck, ↓regP_binOp, ↓regP_unOp, ↓regP_convert, ↓regP_makeFunc, ↓regP_makeSlice, ↓regP_slice, ↓regP_fieldAddr, ↓regP_field, ↓regP_indexAddr, ↓regP_index, ↓regP_extract, ↓regP_builtin, ↓regP_grd, ↓aop_build, ↓reduceIte, List.getD_cons_zero, List.getD_cons_succ, List.getD_nil, implies_true, Nat.reduceEqDiff, Nat.reduceAdd, Nat.reduceMul, Nat.reduceSub, Nat.reduceLT, Nat.reduceLeDiff, reduceCtorEq, decide_true, decide_false, and_self, and_true, true_and, false_and, or_true, true_or, false_or, or_false, Int.ofNat_eq_natCast, ge_iff_le, gt_iff_lt, Int.toNat_natCast, Bool.not_true, Bool.true_and, Bool.and_true, Bool.not_false, Int.reduceToNat, w_i64, w_i32, Int.natCast_zero, Int.natCast_add, Int.cast_ofNat_Int, Int.zero_add, Int.natCast_one])
      | succ m =>
        obtain ⟨s1, s2⟩ := hM.2 m hk
        obtain ⟨e1, e2, e3, e4, e5⟩ := hM.1 m (by omega)
        repeat' ((first
    | refine cs_seq ?_
    | refine cs_reg (by rfl) (fun K Kp hK hKp => ?_)
    | refine cs_drw mixed (by rfl) (by kernel_rfl) (fun K hK => ?_)
    | (refine hK _ _ ?_; try clear hKp; try clear hK; try clear Kp; try clear K)
    | refine cs_cond ?_
    | refine cs_ret (ret_fn ?_)
    | refine cs_scope ?_
    | refine cs_label ?_
    | refine cs_block ?_
    | refine cs_skip ?_
    | refine cs_exit ?_
    | (refine grdO_dec (fun hp => ?_) (fun hp => ?_) <;> first | (exfalso; omega; done) | skip)
    | (refine grdO_nd (fun hp => ?_) (fun hp => ?_) <;> first | (exfalso; omega; done) | skip)
    | (refine grdO_nb (fun hp => ?_) (fun hp => ?_) <;> first | (exfalso; omega; done) | skip)
    | (refine grdO_b (fun hp => ?_) (fun hp => ?_) <;> first | (exfalso; omega; done) | skip)
    | (refine grdP_dec (fun hp => ?_) (fun hp => ?_) <;> first | (exfalso; omega; done) | skip)
    | (refine grdP_nd (fun hp => ?_) (fun hp => ?_) <;> first | (exfalso; omega; done) | skip)
    | (refine grdP_nb (fun hp => ?_) (fun hp => ?_) <;> first | (exfalso; omega; done) | skip)
    | (refine grdP_b (fun hp => ?_) (fun hp => ?_) <;> first | (exfalso; omega; done) | skip)
    | (refine condK_d (fun hp => ?_) (fun hp => ?_) <;> first | (exfalso; omega; done) | skip)
    | (refine condK_nd (fun hp => ?_) (fun hp => ?_) <;> first | (exfalso; omega; done) | skip)
    | (refine condK_nb (fun hp => ?_) (fun hp => ?_) <;> first | (exfalso; omega; done) | skip)
    | (refine condK_b (fun hp => ?_) (fun hp => ?_) <;> first | (exfalso; omega; done) | skip)
    | (with_reducible refine And.intro ?_ ?_; focus (first | omega | (constructor <;> omega) | (have hbits : IntKind.i64.bits = 64 := rfl; omega) | (simp [groupR_at, grow, Int.natCast_add, Int.cast_ofNat_Int, Int.add_sub_cancel, toNat_succ]; done) | (simp [groupR_at, grow, Int.natCast_add, Int.cast_ofNat_Int, Int.add_sub_cancel, toNat_succ]; omega)))) <;> try simp (disch := omega) only [push_cast, ↓regO_move, ↓regO_assign, ↓regO_pick, ↓regO_alloc, ↓regO_box, ↓regO_build, ↓regO_buildSlice, ↓regO_load, ↓regO_store, ↓regO_nilCheck, ↓regO_binOp, ↓regO_unOp, ↓regO_convert, ↓regO_makeFunc, ↓regO_makeSlice, ↓regO_slice, ↓regO_fieldAddr, ↓regO_field, ↓regO_indexAddr, ↓regO_index, ↓regO_extract, ↓regO_builtin, ↓regO_grd, ↓regP_move, ↓regP_assign, ↓regP_pick, ↓regP_alloc, ↓regP_box, ↓regP_build, ↓regP_buildSlice, ↓regP_load, ↓regP_store, ↓regP_nilCheck, ↓regP_binOp, ↓regP_unOp, ↓regP_convert, ↓regP_makeFunc, ↓regP_makeSlice, ↓regP_slice, ↓regP_fieldAddr, ↓regP_field, ↓regP_indexAddr, ↓regP_index, ↓regP_extract, ↓regP_builtin, ↓regP_grd, ↓aop_build, ↓reduceIte, List.getD_cons_zero, List.getD_cons_succ, List.getD_nil, implies_true, Nat.reduceEqDiff, Nat.reduceAdd, Nat.reduceMul, Nat.reduceSub, Nat.reduceLT, Nat.reduceLeDiff, reduceCtorEq, decide_true, decide_false, and_self, and_true, true_and, false_and, or_true, true_or, false_or, or_false, Int.ofNat_eq_natCast, ge_iff_le, gt_iff_lt, Int.toNat_natCast, Bool.not_true, Bool.true_and, Bool.and_true, Bool.not_false, Int.reduceToNat, w_i64, w_i32, groupR_at, grow, Int.natCast_add, Int.cast_ofNat_Int, Int.add_sub_cancel, toNat_succ])
        all_goals (
          refine Again.intro (m + 2) (by omega) (by omega) (ofL []) .ofL ?_ trivial
          try simp (disch := omega) only [push_cast, ↓regO_move, ↓regO_assign, ↓regO_pick, ↓regO_alloc, ↓regO_box, ↓regO_build, ↓regO_buildSlice, ↓regO_load, ↓regO_store, ↓regO_nilCheck, ↓regO_binOp, ↓regO_unOp, ↓regO_convert, ↓regO_makeFunc, ↓regO_makeSlice, ↓regO_slice, ↓regO_fieldAddr, ↓regO_field, ↓regO_indexAddr, ↓regO_index, ↓regO_extract, ↓regO_builtin, ↓regO_grd, ↓regP_move, ↓regP_assign, ↓regP_pick, ↓regP_alloc, ↓regP_box, ↓regP_build, ↓regP_buildSlice, ↓regP_load, ↓regP_store, ↓regP_nilCheck, ↓regP_binOp, ↓regP_unOp, ↓regP_convert, ↓regP_makeFunc, ↓regP_makeSlice, ↓regP_slice, ↓regP_fieldAddr, ↓regP_field, ↓regP_indexAddr, ↓regP_index, ↓regP_extract, ↓regP_builtin, ↓regP_grd, ↓aop_build, ↓reduceIte, List.getD_cons_zero, List.getD_cons_succ, List.getD_nil, implies_true, Nat.reduceEqDiff, Nat.reduceAdd, Nat.reduceMul, Nat.reduceSub, Nat.reduceLT, Nat.reduceLeDiff, reduceCtorEq, decide_true, decide_false, and_self, and_true, true_and, false_and, or_true, true_or, false_or, or_false, Int.ofNat_eq_natCast, ge_iff_le, gt_iff_lt, Int.toNat_natCast, Bool.not_true, Bool.true_and, Bool.and_true, Bool.not_false, Int.reduceToNat, w_i64, w_i32, Int.natCast_add, Int.cast_ofNat_Int, two_up])
    · repeat' ((first
    | refine cs_seq ?_
    | refine cs_reg (by rfl) (fun K Kp hK hKp => ?_)
    | refine cs_drw mixed (by rfl) (by kernel_rfl) (fun K hK => ?_)
    | (refine hK _ _ ?_; try clear hKp; try clear hK; try clear Kp; try clear K)
    | refine cs_cond ?_
    | refine cs_ret (ret_fn ?_)
    | refine cs_scope ?_
    | refine cs_label ?_
    | refine cs_block ?_
    | refine cs_skip ?_
    | refine cs_exit ?_
    | (refine grdO_dec (fun hp => ?_) (fun hp => ?_) <;> first | (exfalso; omega; done) | skip)
    | (refine grdO_nd (fun hp => ?_) (fun hp => ?_) <;> first | (exfalso; omega; done) | skip)
    | (refine grdO_nb (fun hp => ?_) (fun hp => ?_) <;> first | (exfalso; omega; done) | skip)
    | (refine grdO_b (fun hp => ?_) (fun hp => ?_) <;> first | (exfalso; omega; done) | skip)
    | (refine grdP_dec (fun hp => ?_) (fun hp => ?_) <;> first | (exfalso; omega; done) | skip)
    | (refine grdP_nd (fun hp => ?_) (fun hp => ?_) <;> first | (exfalso; omega; done) | skip)
    | (refine grdP_nb (fun hp => ?_) (fun hp => ?_) <;> first | (exfalso; omega; done) | skip)
    | (refine grdP_b (fun hp => ?_) (fun hp => ?_) <;> first | (exfalso; omega; done) | skip)
    | (refine condK_d (fun hp => ?_) (fun hp => ?_) <;> first | (exfalso; omega; done) | skip)
    | (refine condK_nd (fun hp => ?_) (fun hp => ?_) <;> first | (exfalso; omega; done) | skip)
    | (refine condK_nb (fun hp => ?_) (fun hp => ?_) <;> first | (exfalso; omega; done) | skip)
    | (refine condK_b (fun hp => ?_) (fun hp => ?_) <;> first | (exfalso; omega; done) | skip)
    | (with_reducible refine And.intro ?_ ?_; focus (first | omega | (constructor <;> omega) | (have hbits : IntKind.i64.bits = 64 := rfl; omega) | (simp []; done) | (simp []; omega)))) <;> try simp (disch := omega) only [push_cast, ↓regO_move, ↓regO_assign, ↓regO_pick, ↓regO_alloc, ↓regO_box, ↓regO_build, ↓regO_buildSlice, ↓regO_load, ↓regO_store, ↓regO_nilCheck, ↓regO_binOp, ↓regO_unOp, ↓regO_convert, ↓regO_makeFunc, ↓regO_makeSlice, ↓regO_slice, ↓regO_fieldAddr, ↓regO_field, ↓regO_indexAddr, ↓regO_index, ↓regO_extract, ↓regO_builtin, ↓regO_grd, ↓regP_move, ↓regP_assign, ↓regP_pick, ↓regP_alloc, ↓regP_box, ↓regP_build, ↓regP_buildSlice, ↓regP_load, ↓regP_store, ↓regP_nilCheck, ↓regP_binOp, ↓regP_unOp, ↓regP_convert, ↓regP_makeFunc, ↓regP_makeSlice, ↓regP_slice, ↓regP_fieldAddr, ↓regP_field, ↓regP_indexAddr, ↓regP_index, ↓regP_extract, ↓regP_builtin, ↓regP_grd, ↓aop_build, ↓reduceIte, List.getD_cons_zero, List.getD_cons_succ, List.getD_nil, implies_true, Nat.reduceEqDiff, Nat.reduceAdd, Nat.reduceMul, Nat.reduceSub, Nat.reduceLT, Nat.reduceLeDiff, reduceCtorEq, decide_true, decide_false, and_self, and_true, true_and, false_and, or_true, true_or, false_or, or_false, Int.ofNat_eq_natCast, ge_iff_le, gt_iff_lt, Int.toNat_natCast, Bool.not_true, Bool.true_and, Bool.and_true, Bool.not_false, Int.reduceToNat, w_i64, w_i32])
end Go.Proofs.Ytohmjbgcmccplaa
