/- The law on what is found: it tells true. No condition. -/
import Derived.Test.YtohmjbgcmccplaaC17
namespace Go.Proofs.Ytohmjbgcmccplaa
open Go Go.Ab
set_option maxRecDepth 100000
set_option maxHeartbeats 4000000
set_option linter.unusedSimpArgs false
set_option linter.unusedVariables false

def Grp32 (g : Grp) : Prop := (-2147483648 ≤ g.lo ∧ g.lo ≤ 2147483647) ∧ (-2147483648 ≤ g.hi ∧ g.hi ≤ 2147483647) ∧ I64 g.gl

theorem finds_fn (l : List Grp) (hl : l.length ≤ 9223372036854775807) (hG : ∀ g ∈ l, Grp32 g) (cl : List Cls) (hcl : cl.length ≤ 9223372036854775807) (hC : ∀ g ∈ cl, ClsIn g) (at_ : List (List PV)) (ss : List (List Spn)) (hss : ss.length ≤ 9223372036854775807)
    (hS : ∀ s ∈ ss, s.length ≤ 9223372036854775807 ∧ ∀ g ∈ s, SpnIn g) (c : Int) (hc : -2147483648 ≤ c ∧ c ≤ 2147483647) (set g : Int) (hset : I64 set) (hg : I64 g) :
    AFun Try.prog 4 [.p (.fro (groupR l)), .agg [.p (.fro (classR cl)), .p (.fro at_), .p (.fro (setR ss))], i32 c, i64 set, i64 g] (boolA true) := by
  have c0 := alive_fn
  have c1 := rightc_fn cl hcl hC
  refine acalls_body Try.func4 rfl Try.ntmps4 (by simp) ?_
  rw [Try.results4]
  by_cases h1 : l.length ≤ 100
  case neg => repeat' ((first
    | refine cs_seq ?_
    | refine cs_reg (by rfl) (fun K Kp hK hKp => ?_)
    | refine cs_drw mixed (by rfl) (by kernel_rfl) (fun K hK => ?_)
    | (refine hK _ _ ?_; try clear hKp; try clear hK; try clear Kp; try clear K)
    | refine cs_cond ?_
    | refine cs_ret (ret_fn ?_)
    | refine cs_scope ?_
    | refine cs_label ?_
    | refine cs_block ?_
    | refine cs_skip ?_
    | refine cs_exit ?_
    | (refine grdO_dec (fun hp => ?_) (fun hp => ?_) <;> first | (exfalso; omega; done) | skip)
    | (refine grdO_nd (fun hp => ?_) (fun hp => ?_) <;> first | (exfalso; omega; done) | skip)
    | (refine grdO_nb (fun hp => ?_) (fun hp => ?_) <;> first | (exfalso; omega; done) | skip)
    | (refine grdO_b (fun hp => ?_) (fun hp => ?_) <;> first | (exfalso; omega; done) | skip)
    | (refine grdP_dec (fun hp => ?_) (fun hp => ?_) <;> first | (exfalso; omega; done) | skip)
    | (refine grdP_nd (fun hp => ?_) (fun hp => ?_) <;> first | (exfalso; omega; done) | skip)
    | (refine grdP_nb (fun hp => ?_) (fun hp => ?_) <;> first | (exfalso; omega; done) | skip)
    | (refine grdP_b (fun hp => ?_) (fun hp => ?_) <;> first | (exfalso; omega; done) | skip)
    | (refine condK_d (fun hp => ?_) (fun hp => ?_) <;> first | (exfalso; omega; done) | skip)
    | (refine condK_nd (fun hp => ?_) (fun hp => ?_) <;> first | (exfalso; omega; done) | skip)
    | (refine condK_nb (fun hp => ?_) (fun hp => ?_) <;> first | (exfalso; omega; done) | skip)
    | (refine condK_b (fun hp => ?_) (fun hp => ?_) <;> first | (exfalso; omega; done) | skip)
    | (refine regO_call rfl ?_; refine CallK.fn (c0) (by simp only [push_cast]) rfl (by simp only [push_cast, and_self]) (by simp only [push_cast, and_self]) (by simp only [push_cast, ↓reduceIte, Nat.reduceEqDiff, Nat.reduceAdd]) ?_)
    | (with_reducible refine And.intro ?_ ?_; focus (first | omega | (constructor <;> omega) | (have hbits : IntKind.i64.bits = 64 := rfl; omega) | (simp []; done) | (simp []; omega)))) <;> try simp (disch := omega) only [push_cast, ↓regO_move, ↓regO_assign, ↓regO_pick, ↓regO_alloc, ↓regO_box, ↓regO_build, ↓regO_buildSlice, ↓regO_load, ↓regO_store, ↓regO_nilCheck, ↓regO_binOp, ↓regO_unOp, ↓regO_convert, ↓regO_makeFunc, ↓regO_makeSlice, ↓regO_slice, ↓regO_fieldAddr, ↓regO_field, ↓regO_indexAddr, ↓regO_index, ↓regO_extract, ↓regO_builtin, ↓regO_grd, ↓regP_move, ↓regP_assign, ↓regP_pick, ↓regP_alloc, ↓regP_box, ↓regP_build, ↓regP_buildSlice, ↓regP_load, ↓regP_store, ↓regP_nilCheck, ↓regP_binOp, ↓regP_unOp, ↓regP_convert, ↓regP_makeFunc, ↓regP_makeSlice, ↓regP_slice, ↓regP_fieldAddr, ↓regP_field, ↓regP_indexAddr, ↓regP_index, ↓regP_extract, ↓regP_builtin, ↓regP_grd, ↓aop_build, ↓reduceIte, List.getD_cons_zero, List.getD_cons_succ, List.getD_nil, implies_true, Nat.reduceEqDiff, Nat.reduceAdd, Nat.reduceMul, Nat.reduceSub, Nat.reduceLT, Nat.reduceLeDiff, reduceCtorEq, decide_true, decide_false, and_self, and_true, true_and, false_and, or_true, true_or, false_or, or_false, Int.ofNat_eq_natCast, ge_iff_le, gt_iff_lt, Int.toNat_natCast, Bool.not_true, Bool.true_and, Bool.and_true, Bool.not_false, Int.reduceToNat, w_i64, w_i32])
  by_cases h2 : rightC cl
  case neg =>
    rw [rightCB_false h2] at c1
    repeat' ((first
    | refine cs_seq ?_
    | refine cs_reg (by rfl) (fun K Kp hK hKp => ?_)
    | refine cs_drw mixed (by rfl) (by kernel_rfl) (fun K hK => ?_)
    | (refine hK _ _ ?_; try clear hKp; try clear hK; try clear Kp; try clear K)
    | refine cs_cond ?_
    | refine cs_ret (ret_fn ?_)
    | refine cs_scope ?_
    | refine cs_label ?_
    | refine cs_block ?_
    | refine cs_skip ?_
    | refine cs_exit ?_
    | (refine grdO_dec (fun hp => ?_) (fun hp => ?_) <;> first | (exfalso; omega; done) | skip)
    | (refine grdO_nd (fun hp => ?_) (fun hp => ?_) <;> first | (exfalso; omega; done) | skip)
    | (refine grdO_nb (fun hp => ?_) (fun hp => ?_) <;> first | (exfalso; omega; done) | skip)
    | (refine grdO_b (fun hp => ?_) (fun hp => ?_) <;> first | (exfalso; omega; done) | skip)
    | (refine grdP_dec (fun hp => ?_) (fun hp => ?_) <;> first | (exfalso; omega; done) | skip)
    | (refine grdP_nd (fun hp => ?_) (fun hp => ?_) <;> first | (exfalso; omega; done) | skip)
    | (refine grdP_nb (fun hp => ?_) (fun hp => ?_) <;> first | (exfalso; omega; done) | skip)
    | (refine grdP_b (fun hp => ?_) (fun hp => ?_) <;> first | (exfalso; omega; done) | skip)
    | (refine condK_d (fun hp => ?_) (fun hp => ?_) <;> first | (exfalso; omega; done) | skip)
    | (refine condK_nd (fun hp => ?_) (fun hp => ?_) <;> first | (exfalso; omega; done) | skip)
    | (refine condK_nb (fun hp => ?_) (fun hp => ?_) <;> first | (exfalso; omega; done) | skip)
    | (refine condK_b (fun hp => ?_) (fun hp => ?_) <;> first | (exfalso; omega; done) | skip)
    | (refine regO_call rfl ?_; refine CallK.fn (c0) (by simp only [push_cast]) rfl (by simp only [push_cast, and_self]) (by simp only [push_cast, and_self]) (by simp only [push_cast, ↓reduceIte, Nat.reduceEqDiff, Nat.reduceAdd]) ?_)
    | (refine regO_call rfl ?_; refine CallK.fn (c1) (by simp only [push_cast]) rfl (by simp only [push_cast, and_self]) (by simp only [push_cast, and_self]) (by simp only [push_cast, ↓reduceIte, Nat.reduceEqDiff, Nat.reduceAdd]) ?_)
    | (with_reducible refine And.intro ?_ ?_; focus (first | omega | (constructor <;> omega) | (have hbits : IntKind.i64.bits = 64 := rfl; omega) | (simp []; done) | (simp []; omega)))) <;> try simp (disch := omega) only [push_cast, ↓regO_move, ↓regO_assign, ↓regO_pick, ↓regO_alloc, ↓regO_box, ↓regO_build, ↓regO_buildSlice, ↓regO_load, ↓regO_store, ↓regO_nilCheck, ↓regO_binOp, ↓regO_unOp, ↓regO_convert, ↓regO_makeFunc, ↓regO_makeSlice, ↓regO_slice, ↓regO_fieldAddr, ↓regO_field, ↓regO_indexAddr, ↓regO_index, ↓regO_extract, ↓regO_builtin, ↓regO_grd, ↓regP_move, ↓regP_assign, ↓regP_pick, ↓regP_alloc, ↓regP_box, ↓regP_build, ↓regP_buildSlice, ↓regP_load, ↓regP_store, ↓regP_nilCheck, ↓regP_binOp, ↓regP_unOp, ↓regP_convert, ↓regP_makeFunc, ↓regP_makeSlice, ↓regP_slice, ↓regP_fieldAddr, ↓regP_field, ↓regP_indexAddr, ↓regP_index, ↓regP_extract, ↓regP_builtin, ↓regP_grd, ↓aop_build, ↓reduceIte, List.getD_cons_zero, List.getD_cons_succ, List.getD_nil, implies_true, Nat.reduceEqDiff, Nat.reduceAdd, Nat.reduceMul, Nat.reduceSub, Nat.reduceLT, Nat.reduceLeDiff, reduceCtorEq, decide_true, decide_false, and_self, and_true, true_and, false_and, or_true, true_or, false_or, or_false, Int.ofNat_eq_natCast, ge_iff_le, gt_iff_lt, Int.toNat_natCast, Bool.not_true, Bool.true_and, Bool.and_true, Bool.not_false, Int.reduceToNat, w_i64, w_i32])
  rw [rightCB_true h2] at c1
  by_cases h3 : ss.length ≤ 70
  case neg => repeat' ((first
    | refine cs_seq ?_
    | refine cs_reg (by rfl) (fun K Kp hK hKp => ?_)
    | refine cs_drw mixed (by rfl) (by kernel_rfl) (fun K hK => ?_)
    | (refine hK _ _ ?_; try clear hKp; try clear hK; try clear Kp; try clear K)
    | refine cs_cond ?_
    | refine cs_ret (ret_fn ?_)
    | refine cs_scope ?_
    | refine cs_label ?_
    | refine cs_block ?_
    | refine cs_skip ?_
    | refine cs_exit ?_
    | (refine grdO_dec (fun hp => ?_) (fun hp => ?_) <;> first | (exfalso; omega; done) | skip)
    | (refine grdO_nd (fun hp => ?_) (fun hp => ?_) <;> first | (exfalso; omega; done) | skip)
    | (refine grdO_nb (fun hp => ?_) (fun hp => ?_) <;> first | (exfalso; omega; done) | skip)
    | (refine grdO_b (fun hp => ?_) (fun hp => ?_) <;> first | (exfalso; omega; done) | skip)
    | (refine grdP_dec (fun hp => ?_) (fun hp => ?_) <;> first | (exfalso; omega; done) | skip)
    | (refine grdP_nd (fun hp => ?_) (fun hp => ?_) <;> first | (exfalso; omega; done) | skip)
    | (refine grdP_nb (fun hp => ?_) (fun hp => ?_) <;> first | (exfalso; omega; done) | skip)
    | (refine grdP_b (fun hp => ?_) (fun hp => ?_) <;> first | (exfalso; omega; done) | skip)
    | (refine condK_d (fun hp => ?_) (fun hp => ?_) <;> first | (exfalso; omega; done) | skip)
    | (refine condK_nd (fun hp => ?_) (fun hp => ?_) <;> first | (exfalso; omega; done) | skip)
    | (refine condK_nb (fun hp => ?_) (fun hp => ?_) <;> first | (exfalso; omega; done) | skip)
    | (refine condK_b (fun hp => ?_) (fun hp => ?_) <;> first | (exfalso; omega; done) | skip)
    | (refine regO_call rfl ?_; refine CallK.fn (c0) (by simp only [push_cast]) rfl (by simp only [push_cast, and_self]) (by simp only [push_cast, and_self]) (by simp only [push_cast, ↓reduceIte, Nat.reduceEqDiff, Nat.reduceAdd]) ?_)
    | (refine regO_call rfl ?_; refine CallK.fn (c1) (by simp only [push_cast]) rfl (by simp only [push_cast, and_self]) (by simp only [push_cast, and_self]) (by simp only [push_cast, ↓reduceIte, Nat.reduceEqDiff, Nat.reduceAdd]) ?_)
    | (with_reducible refine And.intro ?_ ?_; focus (first | omega | (constructor <;> omega) | (have hbits : IntKind.i64.bits = 64 := rfl; omega) | (simp []; done) | (simp []; omega)))) <;> try simp (disch := omega) only [push_cast, ↓regO_move, ↓regO_assign, ↓regO_pick, ↓regO_alloc, ↓regO_box, ↓regO_build, ↓regO_buildSlice, ↓regO_load, ↓regO_store, ↓regO_nilCheck, ↓regO_binOp, ↓regO_unOp, ↓regO_convert, ↓regO_makeFunc, ↓regO_makeSlice, ↓regO_slice, ↓regO_fieldAddr, ↓regO_field, ↓regO_indexAddr, ↓regO_index, ↓regO_extract, ↓regO_builtin, ↓regO_grd, ↓regP_move, ↓regP_assign, ↓regP_pick, ↓regP_alloc, ↓regP_box, ↓regP_build, ↓regP_buildSlice, ↓regP_load, ↓regP_store, ↓regP_nilCheck, ↓regP_binOp, ↓regP_unOp, ↓regP_convert, ↓regP_makeFunc, ↓regP_makeSlice, ↓regP_slice, ↓regP_fieldAddr, ↓regP_field, ↓regP_indexAddr, ↓regP_index, ↓regP_extract, ↓regP_builtin, ↓regP_grd, ↓aop_build, ↓reduceIte, List.getD_cons_zero, List.getD_cons_succ, List.getD_nil, implies_true, Nat.reduceEqDiff, Nat.reduceAdd, Nat.reduceMul, Nat.reduceSub, Nat.reduceLT, Nat.reduceLeDiff, reduceCtorEq, decide_true, decide_false, and_self, and_true, true_and, false_and, or_true, true_or, false_or, or_false, Int.ofNat_eq_natCast, ge_iff_le, gt_iff_lt, Int.toNat_natCast, Bool.not_true, Bool.true_and, Bool.and_true, Bool.not_false, Int.reduceToNat, w_i64, w_i32])
  repeat' ((first
    | refine cs_seq ?_
    | refine cs_reg (by rfl) (fun K Kp hK hKp => ?_)
    | refine cs_drw mixed (by rfl) (by kernel_rfl) (fun K hK => ?_)
    | (refine hK _ _ ?_; try clear hKp; try clear hK; try clear Kp; try clear K)
    | refine cs_cond ?_
    | refine cs_ret (ret_fn ?_)
    | refine cs_scope ?_
    | refine cs_label ?_
    | refine cs_block ?_
    | refine cs_skip ?_
    | refine cs_exit ?_
    | (refine grdO_dec (fun hp => ?_) (fun hp => ?_) <;> first | (exfalso; omega; done) | skip)
    | (refine grdO_nd (fun hp => ?_) (fun hp => ?_) <;> first | (exfalso; omega; done) | skip)
    | (refine grdO_nb (fun hp => ?_) (fun hp => ?_) <;> first | (exfalso; omega; done) | skip)
    | (refine grdO_b (fun hp => ?_) (fun hp => ?_) <;> first | (exfalso; omega; done) | skip)
    | (refine grdP_dec (fun hp => ?_) (fun hp => ?_) <;> first | (exfalso; omega; done) | skip)
    | (refine grdP_nd (fun hp => ?_) (fun hp => ?_) <;> first | (exfalso; omega; done) | skip)
    | (refine grdP_nb (fun hp => ?_) (fun hp => ?_) <;> first | (exfalso; omega; done) | skip)
    | (refine grdP_b (fun hp => ?_) (fun hp => ?_) <;> first | (exfalso; omega; done) | skip)
    | (refine condK_d (fun hp => ?_) (fun hp => ?_) <;> first | (exfalso; omega; done) | skip)
    | (refine condK_nd (fun hp => ?_) (fun hp => ?_) <;> first | (exfalso; omega; done) | skip)
    | (refine condK_nb (fun hp => ?_) (fun hp => ?_) <;> first | (exfalso; omega; done) | skip)
    | (refine condK_b (fun hp => ?_) (fun hp => ?_) <;> first | (exfalso; omega; done) | skip)
    | (refine regO_call rfl ?_; refine CallK.fn (c0) (by simp only [push_cast]) rfl (by simp only [push_cast, and_self]) (by simp only [push_cast, and_self]) (by simp only [push_cast, ↓reduceIte, Nat.reduceEqDiff, Nat.reduceAdd]) ?_)
    | (refine regO_call rfl ?_; refine CallK.fn (c1) (by simp only [push_cast]) rfl (by simp only [push_cast, and_self]) (by simp only [push_cast, and_self]) (by simp only [push_cast, ↓reduceIte, Nat.reduceEqDiff, Nat.reduceAdd]) ?_)
    | (with_reducible refine And.intro ?_ ?_; focus (first | omega | (constructor <;> omega) | (have hbits : IntKind.i64.bits = 64 := rfl; omega) | (simp []; done) | (simp []; omega)))) <;> try simp (disch := omega) only [push_cast, ↓regO_move, ↓regO_assign, ↓regO_pick, ↓regO_alloc, ↓regO_box, ↓regO_build, ↓regO_buildSlice, ↓regO_load, ↓regO_store, ↓regO_nilCheck, ↓regO_binOp, ↓regO_unOp, ↓regO_convert, ↓regO_makeFunc, ↓regO_makeSlice, ↓regO_slice, ↓regO_fieldAddr, ↓regO_field, ↓regO_indexAddr, ↓regO_index, ↓regO_extract, ↓regO_builtin, ↓regO_grd, ↓regP_move, ↓regP_assign, ↓regP_pick, ↓regP_alloc, ↓regP_box, ↓regP_build, ↓regP_buildSlice, ↓regP_load, ↓regP_store, ↓regP_nilCheck, ↓regP_binOp, ↓regP_unOp, ↓regP_convert, ↓regP_makeFunc, ↓regP_makeSlice, ↓regP_slice, ↓regP_fieldAddr, ↓regP_field, ↓regP_indexAddr, ↓regP_index, ↓regP_extract, ↓regP_builtin, ↓regP_grd, ↓aop_build, ↓reduceIte, List.getD_cons_zero, List.getD_cons_succ, List.getD_nil, implies_true, Nat.reduceEqDiff, Nat.reduceAdd, Nat.reduceMul, Nat.reduceSub, Nat.reduceLT, Nat.reduceLeDiff, reduceCtorEq, decide_true, decide_false, and_self, and_true, true_and, false_and, or_true, true_or, false_or, or_false, Int.ofNat_eq_natCast, ge_iff_le, gt_iff_lt, Int.toNat_natCast, Bool.not_true, Bool.true_and, Bool.and_true, Bool.not_false, Int.reduceToNat, w_i64, w_i32])
  refine cs_lp (ι := Nat) (fun k => [(0, .p (.fro (groupR l))), (2, i32 c), (3, i64 set), (4, i64 g), (6, .ptr 0 0), (11, i64 k)]) (fun k => [(0, .box 27 [.p (.fro (classR cl)), .p (.fro at_), .p (.fro (setR ss))])]) 1
    (fun k => k ≤ l.length ∧ ∀ j, j < k → GrpIn (l.getD j default)) (fun k => l.length - k) 0 ⟨by omega, fun j hj => by omega⟩ ⟨ofL [], .ofL, ?_, ?_⟩ ?_
  · try simp (disch := omega) only [push_cast, ↓regO_move, ↓regO_assign, ↓regO_pick, ↓regO_alloc, ↓regO_box, ↓regO_build, ↓regO_buildSlice, ↓regO_load, ↓regO_store, ↓regO_nilCheck, ↓regO_binOp, ↓regO_unOp, ↓regO_convert, ↓regO_makeFunc, ↓regO_makeSlice, ↓regO_slice, ↓regO_fieldAddr, ↓regO_field, ↓regO_indexAddr, ↓regO_index, ↓regO_extract, ↓regO_builtin, ↓regO_grd, ↓regP_move, ↓regP_assign, ↓regP_pick, ↓regP_alloc, ↓regP_box, ↓regP_build, ↓regP_buildSlice, ↓regP_load, ↓regP_store, ↓regP_nilCheck, ↓regP_binOp, ↓regP_unOp, ↓regP_convert, ↓regP_makeFunc, ↓regP_makeSlice, ↓regP_slice, ↓regP_fieldAddr, ↓regP_field, ↓regP_indexAddr, ↓regP_index, ↓regP_extract, ↓regP_builtin, ↓regP_grd, ↓aop_build, ↓reduceIte, List.getD_cons_zero, List.getD_cons_succ, List.getD_nil, implies_true, Nat.reduceEqDiff, Nat.reduceAdd, Nat.reduceMul, Nat.reduceSub, Nat.reduceLT, Nat.reduceLeDiff, reduceCtorEq, decide_true, decide_false, and_self, and_true, true_and, false_and, or_true, true_or, false_or, or_false, Int.ofNat_eq_natCast, ge_iff_le, gt_iff_lt, Int.toNat_natCast, Bool.not_true, Bool.true_and, Bool.and_true, Bool.not_false, Int.reduceToNat, w_i64, w_i32, Int.natCast_zero]
  · try simp (disch := omega) only [push_cast, ↓regO_move, ↓regO_assign, ↓regO_pick, ↓regO_alloc, ↓regO_box, ↓regO_build, ↓regO_buildSlice, ↓regO_load, ↓regO_store, ↓regO_nilCheck, ↓regO_binOp, ↓regO_unOp, ↓regO_convert, ↓regO_makeFunc, ↓regO_makeSlice, ↓regO_slice, ↓regO_fieldAddr, ↓regO_field, ↓regO_indexAddr, ↓regO_index, ↓regO_extract, ↓regO_builtin, ↓regO_grd, ↓regP_move, ↓regP_assign, ↓regP_pick, ↓regP_alloc, ↓regP_box, ↓regP_build, ↓regP_buildSlice, ↓regP_load, ↓regP_store, ↓regP_nilCheck, ↓regP_binOp, ↓regP_unOp, ↓regP_convert, ↓regP_makeFunc, ↓regP_makeSlice, ↓regP_slice, ↓regP_fieldAddr, ↓regP_field, ↓regP_indexAddr, ↓regP_index, ↓regP_extract, ↓regP_builtin, ↓regP_grd, ↓aop_build, ↓reduceIte, List.getD_cons_zero, List.getD_cons_succ, List.getD_nil, implies_true, Nat.reduceEqDiff, Nat.reduceAdd, Nat.reduceMul, Nat.reduceSub, Nat.reduceLT, Nat.reduceLeDiff, reduceCtorEq, decide_true, decide_false, and_self, and_true, true_and, false_and, or_true, true_or, false_or, or_false, Int.ofNat_eq_natCast, ge_iff_le, gt_iff_lt, Int.toNat_natCast, Bool.not_true, Bool.true_and, Bool.and_true, Bool.not_false, Int.reduceToNat, w_i64, w_i32]
  rintro k ⟨hk1, hk2⟩
  by_cases hk : k < l.length
  · obtain ⟨⟨a1, a2⟩, ⟨b1, b2⟩, ⟨d1, d2⟩⟩ := hG (l.getD k default) (by simp [hk])
    have hnext : GrpIn (l.getD k default) → k + 1 ≤ l.length ∧ ∀ j, j < k + 1 → GrpIn (l.getD j default) := fun h => ⟨by omega, fun j hj => by
      by_cases e : j = k
      · subst e; exact h
      · exact hk2 j (by omega)⟩
    cases k with
    | zero =>
      repeat' ((first
    | refine cs_seq ?_
    | refine cs_reg (by rfl) (fun K Kp hK hKp => ?_)
    | refine cs_drw mixed (by rfl) (by kernel_rfl) (fun K hK => ?_)
    | (refine hK _ _ ?_; try clear hKp; try clear hK; try clear Kp; try clear K)
    | refine cs_cond ?_
    | refine cs_ret (ret_fn ?_)
    | refine cs_scope ?_
    | refine cs_label ?_
    | refine cs_block ?_
    | refine cs_skip ?_
    | refine cs_exit ?_
    | (refine grdO_dec (fun hp => ?_) (fun hp => ?_) <;> first | (exfalso; omega; done) | skip)
    | (refine grdO_nd (fun hp => ?_) (fun hp => ?_) <;> first | (exfalso; omega; done) | skip)
    | (refine grdO_nb (fun hp => ?_) (fun hp => ?_) <;> first | (exfalso; omega; done) | skip)
    | (refine grdO_b (fun hp => ?_) (fun hp => ?_) <;> first | (exfalso; omega; done) | skip)
    | (refine grdP_dec (fun hp => ?_) (fun hp => ?_) <;> first | (exfalso; omega; done) | skip)
    | (refine grdP_nd (fun hp => ?_) (fun hp => ?_) <;> first | (exfalso; omega; done) | skip)
    | (refine grdP_nb (fun hp => ?_) (fun hp => ?_) <;> first | (exfalso; omega; done) | skip)
    | (refine grdP_b (fun hp => ?_) (fun hp => ?_) <;> first | (exfalso; omega; done) | skip)
    | (refine condK_d (fun hp => ?_) (fun hp => ?_) <;> first | (exfalso; omega; done) | skip)
    | (refine condK_nd (fun hp => ?_) (fun hp => ?_) <;> first | (exfalso; omega; done) | skip)
    | (refine condK_nb (fun hp => ?_) (fun hp => ?_) <;> first | (exfalso; omega; done) | skip)
    | (refine condK_b (fun hp => ?_) (fun hp => ?_) <;> first | (exfalso; omega; done) | skip)
    | (with_reducible refine And.intro ?_ ?_; focus (first | omega | (constructor <;> omega) | (have hbits : IntKind.i64.bits = 64 := rfl; omega) | (simp [groupR_at, grow, Int.natCast_zero]; done) | (simp [groupR_at, grow, Int.natCast_zero]; omega)))) <;> try simp (disch := omega) only [push_cast, ↓regO_move, ↓regO_assign, ↓regO_pick, ↓regO_alloc, ↓regO_box, ↓regO_build, ↓regO_buildSlice, ↓regO_load, ↓regO_store, ↓regO_nilCheck, ↓regO_binOp, ↓regO_unOp, ↓regO_convert, ↓regO_makeFunc, ↓regO_makeSlice, ↓regO_slice, ↓regO_fieldAddr, ↓regO_field, ↓regO_indexAddr, ↓regO_index, ↓regO_extract, ↓regO_builtin, ↓regO_grd, ↓regP_move, ↓regP_assign, ↓regP_pick, ↓regP_alloc, ↓regP_box, ↓regP_build, ↓regP_buildSlice, ↓regP_load, ↓regP_store, ↓regP_nilCheck, ↓regP_binOp, ↓regP_unOp, ↓regP_convert, ↓regP_makeFunc, ↓regP_makeSlice, ↓regP_slice, ↓regP_fieldAddr, ↓regP_field, ↓regP_indexAddr, ↓regP_index, ↓regP_extract, ↓regP_builtin, ↓regP_grd, ↓aop_build, ↓reduceIte, List.getD_cons_zero, List.getD_cons_succ, List.getD_nil, implies_true, Nat.reduceEqDiff, Nat.reduceAdd, Nat.reduceMul, Nat.reduceSub, Nat.reduceLT, Nat.reduceLeDiff, reduceCtorEq, decide_true, decide_false, and_self, and_true, true_and, false_and, or_true, true_or, false_or, or_false, Int.ofNat_eq_natCast, ge_iff_le, gt_iff_lt, Int.toNat_natCast, Bool.not_true, Bool.true_and, Bool.and_true, Bool.not_false, Int.reduceToNat, w_i64, w_i32, groupR_at, grow, Int.natCast_zero])
      all_goals try (refine cs_ret ?_; try simp (disch := omega) only [push_cast, ↓regO_move, ↓regO_assign, ↓regO_pick, ↓regO_alloc, ↓regO_box, ↓regO_build, ↓regO_buildSlice, ↓regO_load, ↓regO_store, ↓regO_nilCheck, ↓regO_binOp, ↓regO_unOp, ↓regO_convert, ↓regO_makeFunc, ↓regO_makeSlice, ↓regO_slice, ↓regO_fieldAddr, ↓regO_field, ↓regO_indexAddr, ↓regO_index, ↓regO_extract, ↓regO_builtin, ↓regO_grd, ↓regP_move, ↓regP_assign, ↓regP_pick, ↓regP_alloc, ↓regP_box, ↓regP_build, ↓regP_buildSlice, ↓regP_load, ↓regP_store, ↓regP_nilCheck, ↓regP_binOp, ↓regP_unOp, ↓regP_convert, ↓regP_makeFunc, ↓regP_makeSlice, ↓regP_slice, ↓regP_fieldAddr, ↓regP_field, ↓regP_indexAddr, ↓regP_index, ↓regP_extract, ↓regP_builtin, ↓regP_grd, ↓aop_build, ↓reduceIte, List.getD_cons_zero, List.getD_cons_succ, List.getD_nil, implies_true, Nat.reduceEqDiff, Nat.reduceAdd, Nat.reduceMul, Nat.reduceSub, Nat.reduceLT, Nat.reduceLeDiff, reduceCtorEq, decide_true, decide_false, and_self, and_true, true_and, false_and, or_true, true_or, false_or, or_false, Int.ofNat_eq_natCast, ge_iff_le, gt_iff_lt, Int.toNat_natCast, Bool.not_true, Bool.true_and, Bool.and_true, Bool.not_false, Int.reduceToNat, w_i64, w_i32]; refine ret_fn ?_; try simp (disch := omega) only [push_cast, ↓regO_move, ↓regO_assign, ↓regO_pick, ↓regO_alloc, ↓regO_box, ↓regO_build, ↓regO_buildSlice, ↓regO_load, ↓regO_store, ↓regO_nilCheck, ↓regO_binOp, ↓regO_unOp, ↓regO_convert, ↓regO_makeFunc, ↓regO_makeSlice, ↓regO_slice, ↓regO_fieldAddr, ↓regO_field, ↓regO_indexAddr, ↓regO_index, ↓regO_extract, ↓regO_builtin, ↓regO_grd, ↓regP_move, ↓regP_assign, ↓regP_pick, ↓regP_alloc, ↓regP_box, ↓regP_build, ↓regP_buildSlice, ↓regP_load, ↓regP_store, ↓regP_nilCheck, ↓regP_binOp, ↓regP_unOp, ↓regP_convert, ↓regP_makeFunc, ↓regP_makeSlice, ↓regP_slice, ↓regP_fieldAddr, ↓regP_field, ↓regP_indexAddr, ↓regP_index, ↓regP_extract, ↓regP_builtin, ↓regP_grd, ↓aop_build, ↓reduceIte, List.getD_cons_zero, List.getD_cons_succ, List.getD_nil, implies_true, Nat.reduceEqDiff, Nat.reduceAdd, Nat.reduceMul, Nat.reduceSub, Nat.reduceLT, Nat.reduceLeDiff, reduceCtorEq, decide_true, decide_false, and_self, and_true, true_and, false_and, or_true, true_or, false_or, or_false, Int.ofNat_eq_natCast, ge_iff_le, gt_iff_lt, Int.toNat_natCast, Bool.not_true, Bool.true_and, Bool.and_true, Bool.not_false, Int.reduceToNat, w_i64, w_i32]; done)
      refine Again.intro 1 (hnext ⟨by omega, by omega, by omega⟩) (by omega) (ofL []) .ofL ?_ ?_
      · try simp (disch := omega) only [push_cast, ↓regO_move, ↓regO_assign, ↓regO_pick, ↓regO_alloc, ↓regO_box, ↓regO_build, ↓regO_buildSlice, ↓regO_load, ↓regO_store, ↓regO_nilCheck, ↓regO_binOp, ↓regO_unOp, ↓regO_convert, ↓regO_makeFunc, ↓regO_makeSlice, ↓regO_slice, ↓regO_fieldAddr, ↓regO_field, ↓regO_indexAddr, ↓regO_index, ↓regO_extract, ↓regO_builtin, ↓regO_grd, ↓regP_move, ↓regP_assign, ↓regP_pick, ↓regP_alloc, ↓regP_box, ↓regP_build, ↓regP_buildSlice, ↓regP_load, ↓regP_store, ↓regP_nilCheck, ↓regP_binOp, ↓regP_unOp, ↓regP_convert, ↓regP_makeFunc, ↓regP_makeSlice, ↓regP_slice, ↓regP_fieldAddr, ↓regP_field, ↓regP_indexAddr, ↓regP_index, ↓regP_extract, ↓regP_builtin, ↓regP_grd, ↓aop_build, ↓reduceIte, List.getD_cons_zero, List.getD_cons_succ, List.getD_nil, implies_true, Nat.reduceEqDiff, Nat.reduceAdd, Nat.reduceMul, Nat.reduceSub, Nat.reduceLT, Nat.reduceLeDiff, reduceCtorEq, decide_true, decide_false, and_self, and_true, true_and, false_and, or_true, true_or, false_or, or_false, Int.ofNat_eq_natCast, ge_iff_le, gt_iff_lt, Int.toNat_natCast, Bool.not_true, Bool.true_and, Bool.and_true, Bool.not_false, Int.reduceToNat, w_i64, w_i32, Int.natCast_zero, Int.natCast_add, Int.cast_ofNat_Int, Int.zero_add, Int.natCast_one]
      · try simp (disch := omega) only [push_cast, ↓regO_move, ↓regO_assign, ↓regO_pick, ↓regO_alloc, ↓regO_box, ↓regO_build, ↓regO_buildSlice, ↓regO_load, ↓regO_store, ↓regO_nilCheck, ↓regO_binOp, ↓regO_unOp, ↓regO_convert, ↓regO_makeFunc, ↓regO_makeSlice, ↓regO_slice, ↓regO_fieldAddr, ↓regO_field, ↓regO_indexAddr, ↓regO_index, ↓regO_extract, ↓regO_builtin, ↓regO_grd, ↓regP_move, ↓regP_assign, ↓regP_pick, ↓regP_alloc, ↓regP_box, ↓regP_build, ↓regP_buildSlice, ↓regP_load, ↓regP_store, ↓regP_nilCheck, ↓regP_binOp, ↓regP_unOp, ↓regP_convert, ↓regP_makeFunc, ↓regP_makeSlice, ↓regP_slice, ↓regP_fieldAddr, ↓regP_field, ↓regP_indexAddr, ↓regP_index, ↓regP_extract, ↓regP_builtin, ↓regP_grd, ↓aop_build, ↓reduceIte, List.getD_cons_zero, List.getD_cons_succ, List.getD_nil, implies_true, Nat.reduceEqDiff, Nat.reduceAdd, Nat.reduceMul, Nat.reduceSub, Nat.reduceLT, Nat.reduceLeDiff, reduceCtorEq, decide_true, decide_false, and_self, and_true, true_and, false_and, or_true, true_or, false_or, or_false, Int.ofNat_eq_natCast, ge_iff_le, gt_iff_lt, Int.toNat_natCast, Bool.not_true, Bool.true_and, Bool.and_true, Bool.not_false, Int.reduceToNat, w_i64, w_i32]
    | succ m =>
      repeat' ((first
    | refine cs_seq ?_
    | refine cs_reg (by rfl) (fun K Kp hK hKp => ?_)
    | refine cs_drw mixed (by rfl) (by kernel_rfl) (fun K hK => ?_)
    | (refine hK _ _ ?_; try clear hKp; try clear hK; try clear Kp; try clear K)
    | refine cs_cond ?_
    | refine cs_ret (ret_fn ?_)
    | refine cs_scope ?_
    | refine cs_label ?_
    | refine cs_block ?_
    | refine cs_skip ?_
    | refine cs_exit ?_
    | (refine grdO_dec (fun hp => ?_) (fun hp => ?_) <;> first | (exfalso; omega; done) | skip)
    | (refine grdO_nd (fun hp => ?_) (fun hp => ?_) <;> first | (exfalso; omega; done) | skip)
    | (refine grdO_nb (fun hp => ?_) (fun hp => ?_) <;> first | (exfalso; omega; done) | skip)
    | (refine grdO_b (fun hp => ?_) (fun hp => ?_) <;> first | (exfalso; omega; done) | skip)
    | (refine grdP_dec (fun hp => ?_) (fun hp => ?_) <;> first | (exfalso; omega; done) | skip)
    | (refine grdP_nd (fun hp => ?_) (fun hp => ?_) <;> first | (exfalso; omega; done) | skip)
    | (refine grdP_nb (fun hp => ?_) (fun hp => ?_) <;> first | (exfalso; omega; done) | skip)
    | (refine grdP_b (fun hp => ?_) (fun hp => ?_) <;> first | (exfalso; omega; done) | skip)
    | (refine condK_d (fun hp => ?_) (fun hp => ?_) <;> first | (exfalso; omega; done) | skip)
    | (refine condK_nd (fun hp => ?_) (fun hp => ?_) <;> first | (exfalso; omega; done) | skip)
    | (refine condK_nb (fun hp => ?_) (fun hp => ?_) <;> first | (exfalso; omega; done) | skip)
    | (refine condK_b (fun hp => ?_) (fun hp => ?_) <;> first | (exfalso; omega; done) | skip)
    | (with_reducible refine And.intro ?_ ?_; focus (first | omega | (constructor <;> omega) | (have hbits : IntKind.i64.bits = 64 := rfl; omega) | (simp [groupR_at, grow, Int.natCast_add, Int.cast_ofNat_Int, Int.add_sub_cancel, toNat_succ]; done) | (simp [groupR_at, grow, Int.natCast_add, Int.cast_ofNat_Int, Int.add_sub_cancel, toNat_succ]; omega)))) <;> try simp (disch := omega) only [push_cast, ↓regO_move, ↓regO_assign, ↓regO_pick, ↓regO_alloc, ↓regO_box, ↓regO_build, ↓regO_buildSlice, ↓regO_load, ↓regO_store, ↓regO_nilCheck, ↓regO_binOp, ↓regO_unOp, ↓regO_convert, ↓regO_makeFunc, ↓regO_makeSlice, ↓regO_slice, ↓regO_fieldAddr, ↓regO_field, ↓regO_indexAddr, ↓regO_index, ↓regO_extract, ↓regO_builtin, ↓regO_grd, ↓regP_move, ↓regP_assign, ↓regP_pick, ↓regP_alloc, ↓regP_box, ↓regP_build, ↓regP_buildSlice, ↓regP_load, ↓regP_store, ↓regP_nilCheck, ↓regP_binOp, ↓regP_unOp, ↓regP_convert, ↓regP_makeFunc, ↓regP_makeSlice, ↓regP_slice, ↓regP_fieldAddr, ↓regP_field, ↓regP_indexAddr, ↓regP_index, ↓regP_extract, ↓regP_builtin, ↓regP_grd, ↓aop_build, ↓reduceIte, List.getD_cons_zero, List.getD_cons_succ, List.getD_nil, implies_true, Nat.reduceEqDiff, Nat.reduceAdd, Nat.reduceMul, Nat.reduceSub, Nat.reduceLT, Nat.reduceLeDiff, reduceCtorEq, decide_true, decide_false, and_self, and_true, true_and, false_and, or_true, true_or, false_or, or_false, Int.ofNat_eq_natCast, ge_iff_le, gt_iff_lt, Int.toNat_natCast, Bool.not_true, Bool.true_and, Bool.and_true, Bool.not_false, Int.reduceToNat, w_i64, w_i32, groupR_at, grow, Int.natCast_add, Int.cast_ofNat_Int, Int.add_sub_cancel, toNat_succ])
      all_goals try (refine cs_ret ?_; try simp (disch := omega) only [push_cast, ↓regO_move, ↓regO_assign, ↓regO_pick, ↓regO_alloc, ↓regO_box, ↓regO_build, ↓regO_buildSlice, ↓regO_load, ↓regO_store, ↓regO_nilCheck, ↓regO_binOp, ↓regO_unOp, ↓regO_convert, ↓regO_makeFunc, ↓regO_makeSlice, ↓regO_slice, ↓regO_fieldAddr, ↓regO_field, ↓regO_indexAddr, ↓regO_index, ↓regO_extract, ↓regO_builtin, ↓regO_grd, ↓regP_move, ↓regP_assign, ↓regP_pick, ↓regP_alloc, ↓regP_box, ↓regP_build, ↓regP_buildSlice, ↓regP_load, ↓regP_store, ↓regP_nilCheck, ↓regP_binOp, ↓regP_unOp, ↓regP_convert, ↓regP_makeFunc, ↓regP_makeSlice, ↓regP_slice, ↓regP_fieldAddr, ↓regP_field, ↓regP_indexAddr, ↓regP_index, ↓regP_extract, ↓regP_builtin, ↓regP_grd, ↓aop_build, ↓reduceIte, List.getD_cons_zero, List.getD_cons_succ, List.getD_nil, implies_true, Nat.reduceEqDiff, Nat.reduceAdd, Nat.reduceMul, Nat.reduceSub, Nat.reduceLT, Nat.reduceLeDiff, reduceCtorEq, decide_true, decide_false, and_self, and_true, true_and, false_and, or_true, true_or, false_or, or_false, Int.ofNat_eq_natCast, ge_iff_le, gt_iff_lt, Int.toNat_natCast, Bool.not_true, Bool.true_and, Bool.and_true, Bool.not_false, Int.reduceToNat, w_i64, w_i32]; refine ret_fn ?_; try simp (disch := omega) only [push_cast, ↓regO_move, ↓regO_assign, ↓regO_pick, ↓regO_alloc, ↓regO_box, ↓regO_build, ↓regO_buildSlice, ↓regO_load, ↓regO_store, ↓regO_nilCheck, ↓regO_binOp, ↓regO_unOp, ↓regO_convert, ↓regO_makeFunc, ↓regO_makeSlice, ↓regO_slice, ↓regO_fieldAddr, ↓regO_field, ↓regO_indexAddr, ↓regO_index, ↓regO_extract, ↓regO_builtin, ↓regO_grd, ↓regP_move, ↓regP_assign, ↓regP_pick, ↓regP_alloc, ↓regP_box, ↓regP_build, ↓regP_buildSlice, ↓regP_load, ↓regP_store, ↓regP_nilCheck, ↓regP_binOp, ↓regP_unOp, ↓regP_convert, ↓regP_makeFunc, ↓regP_makeSlice, ↓regP_slice, ↓regP_fieldAddr, ↓regP_field, ↓regP_indexAddr, ↓regP_index, ↓regP_extract, ↓regP_builtin, ↓regP_grd, ↓aop_build, ↓reduceIte, List.getD_cons_zero, List.getD_cons_succ, List.getD_nil, implies_true, Nat.reduceEqDiff, Nat.reduceAdd, Nat.reduceMul, Nat.reduceSub, Nat.reduceLT, Nat.reduceLeDiff, reduceCtorEq, decide_true, decide_false, and_self, and_true, true_and, false_and, or_true, true_or, false_or, or_false, Int.ofNat_eq_natCast, ge_iff_le, gt_iff_lt, Int.toNat_natCast, Bool.not_true, Bool.true_and, Bool.and_true, Bool.not_false, Int.reduceToNat, w_i64, w_i32]; done)
      refine Again.intro (m + 2) (hnext ⟨by omega, by omega, by omega⟩) (by omega) (ofL []) .ofL ?_ ?_
      · try simp (disch := omega) only [push_cast, ↓regO_move, ↓regO_assign, ↓regO_pick, ↓regO_alloc, ↓regO_box, ↓regO_build, ↓regO_buildSlice, ↓regO_load, ↓regO_store, ↓regO_nilCheck, ↓regO_binOp, ↓regO_unOp, ↓regO_convert, ↓regO_makeFunc, ↓regO_makeSlice, ↓regO_slice, ↓regO_fieldAddr, ↓regO_field, ↓regO_indexAddr, ↓regO_index, ↓regO_extract, ↓regO_builtin, ↓regO_grd, ↓regP_move, ↓regP_assign, ↓regP_pick, ↓regP_alloc, ↓regP_box, ↓regP_build, ↓regP_buildSlice, ↓regP_load, ↓regP_store, ↓regP_nilCheck, ↓regP_binOp, ↓regP_unOp, ↓regP_convert, ↓regP_makeFunc, ↓regP_makeSlice, ↓regP_slice, ↓regP_fieldAddr, ↓regP_field, ↓regP_indexAddr, ↓regP_index, ↓regP_extract, ↓regP_builtin, ↓regP_grd, ↓aop_build, ↓reduceIte, List.getD_cons_zero, List.getD_cons_succ, List.getD_nil, implies_true, Nat.reduceEqDiff, Nat.reduceAdd, Nat.reduceMul, Nat.reduceSub, Nat.reduceLT, Nat.reduceLeDiff, reduceCtorEq, decide_true, decide_false, and_self, and_true, true_and, false_and, or_true, true_or, false_or, or_false, Int.ofNat_eq_natCast, ge_iff_le, gt_iff_lt, Int.toNat_natCast, Bool.not_true, Bool.true_and, Bool.and_true, Bool.not_false, Int.reduceToNat, w_i64, w_i32, Int.natCast_add, Int.cast_ofNat_Int, two_up]
      · try simp (disch := omega) only [push_cast, ↓regO_move, ↓regO_assign, ↓regO_pick, ↓regO_alloc, ↓regO_box, ↓regO_build, ↓regO_buildSlice, ↓regO_load, ↓regO_store, ↓regO_nilCheck, ↓regO_binOp, ↓regO_unOp, ↓regO_convert, ↓regO_makeFunc, ↓regO_makeSlice, ↓regO_slice, ↓regO_fieldAddr, ↓regO_field, ↓regO_indexAddr, ↓regO_index, ↓regO_extract, ↓regO_builtin, ↓regO_grd, ↓regP_move, ↓regP_assign, ↓regP_pick, ↓regP_alloc, ↓regP_box, ↓regP_build, ↓regP_buildSlice, ↓regP_load, ↓regP_store, ↓regP_nilCheck, ↓regP_binOp, ↓regP_unOp, ↓regP_convert, ↓regP_makeFunc, ↓regP_makeSlice, ↓regP_slice, ↓regP_fieldAddr, ↓regP_field, ↓regP_indexAddr, ↓regP_index, ↓regP_extract, ↓regP_builtin, ↓regP_grd, ↓aop_build, ↓reduceIte, List.getD_cons_zero, List.getD_cons_succ, List.getD_nil, implies_true, Nat.reduceEqDiff, Nat.reduceAdd, Nat.reduceMul, Nat.reduceSub, Nat.reduceLT, Nat.reduceLeDiff, reduceCtorEq, decide_true, decide_false, and_self, and_true, true_and, false_and, or_true, true_or, false_or, or_false, Int.ofNat_eq_natCast, ge_iff_le, gt_iff_lt, Int.toNat_natCast, Bool.not_true, Bool.true_and, Bool.and_true, Bool.not_false, Int.reduceToNat, w_i64, w_i32]
  have hk3 : k = l.length := by omega
  subst hk3
  repeat' ((first
    | refine cs_seq ?_
    | refine cs_reg (by rfl) (fun K Kp hK hKp => ?_)
    | refine cs_drw mixed (by rfl) (by kernel_rfl) (fun K hK => ?_)
    | (refine hK _ _ ?_; try clear hKp; try clear hK; try clear Kp; try clear K)
    | refine cs_cond ?_
    | refine cs_ret (ret_fn ?_)
    | refine cs_scope ?_
    | refine cs_label ?_
    | refine cs_block ?_
    | refine cs_skip ?_
    | refine cs_exit ?_
    | (refine grdO_dec (fun hp => ?_) (fun hp => ?_) <;> first | (exfalso; omega; done) | skip)
    | (refine grdO_nd (fun hp => ?_) (fun hp => ?_) <;> first | (exfalso; omega; done) | skip)
    | (refine grdO_nb (fun hp => ?_) (fun hp => ?_) <;> first | (exfalso; omega; done) | skip)
    | (refine grdO_b (fun hp => ?_) (fun hp => ?_) <;> first | (exfalso; omega; done) | skip)
    | (refine grdP_dec (fun hp => ?_) (fun hp => ?_) <;> first | (exfalso; omega; done) | skip)
    | (refine grdP_nd (fun hp => ?_) (fun hp => ?_) <;> first | (exfalso; omega; done) | skip)
    | (refine grdP_nb (fun hp => ?_) (fun hp => ?_) <;> first | (exfalso; omega; done) | skip)
    | (refine grdP_b (fun hp => ?_) (fun hp => ?_) <;> first | (exfalso; omega; done) | skip)
    | (refine condK_d (fun hp => ?_) (fun hp => ?_) <;> first | (exfalso; omega; done) | skip)
    | (refine condK_nd (fun hp => ?_) (fun hp => ?_) <;> first | (exfalso; omega; done) | skip)
    | (refine condK_nb (fun hp => ?_) (fun hp => ?_) <;> first | (exfalso; omega; done) | skip)
    | (refine condK_b (fun hp => ?_) (fun hp => ?_) <;> first | (exfalso; omega; done) | skip)
    | (with_reducible refine And.intro ?_ ?_; focus (first | omega | (constructor <;> omega) | (have hbits : IntKind.i64.bits = 64 := rfl; omega) | (simp []; done) | (simp []; omega)))) <;> try simp (disch := omega) only [push_cast, ↓regO_move, ↓regO_assign, ↓regO_pick, ↓regO_alloc, ↓regO_box, ↓regO_build, ↓regO_buildSlice, ↓regO_load, ↓regO_store, ↓regO_nilCheck, ↓regO_binOp, ↓regO_unOp, ↓regO_convert, ↓regO_makeFunc, ↓regO_makeSlice, ↓regO_slice, ↓regO_fieldAddr, ↓regO_field, ↓regO_indexAddr, ↓regO_index, ↓regO_extract, ↓regO_builtin, ↓regO_grd, ↓regP_move, ↓regP_assign, ↓regP_pick, ↓regP_alloc, ↓regP_box, ↓regP_build, ↓regP_buildSlice, ↓regP_load, ↓regP_store, ↓regP_nilCheck, ↓regP_binOp, ↓regP_unOp, ↓regP_convert, ↓regP_makeFunc, ↓regP_makeSlice, ↓regP_slice, ↓regP_fieldAddr, ↓regP_field, ↓regP_indexAddr, ↓regP_index, ↓regP_extract, ↓regP_builtin, ↓regP_grd, ↓aop_build, ↓reduceIte, List.getD_cons_zero, List.getD_cons_succ, List.getD_nil, implies_true, Nat.reduceEqDiff, Nat.reduceAdd, Nat.reduceMul, Nat.reduceSub, Nat.reduceLT, Nat.reduceLeDiff, reduceCtorEq, decide_true, decide_false, and_self, and_true, true_and, false_and, or_true, true_or, false_or, or_false, Int.ofNat_eq_natCast, ge_iff_le, gt_iff_lt, Int.toNat_natCast, Bool.not_true, Bool.true_and, Bool.and_true, Bool.not_false, Int.reduceToNat, w_i64, w_i32])
  have hGI : ∀ x ∈ l, GrpIn x := fun x hx => by
    obtain ⟨i, hi, rfl⟩ := List.getElem_of_mem hx
    have := hk2 i hi
    simpa [hi] using this
  refine cs_lp (ι := Nat) (fun k => [(0, .p (.fro (groupR l))), (2, i32 c), (3, i64 set), (4, i64 g), (6, .ptr 0 0), (12, i64 k)]) (fun k => [(0, .box 27 [.p (.fro (classR cl)), .p (.fro at_), .p (.fro (setR ss))])]) 1
    (fun k => k ≤ ss.length ∧ ∀ j, j < k → rightS (ss.getD j [])) (fun k => ss.length - k) 0 ⟨by omega, fun j hj => by omega⟩ ⟨ofL [], .ofL, ?_, ?_⟩ ?_
  · try simp (disch := omega) only [push_cast, ↓regO_move, ↓regO_assign, ↓regO_pick, ↓regO_alloc, ↓regO_box, ↓regO_build, ↓regO_buildSlice, ↓regO_load, ↓regO_store, ↓regO_nilCheck, ↓regO_binOp, ↓regO_unOp, ↓regO_convert, ↓regO_makeFunc, ↓regO_makeSlice, ↓regO_slice, ↓regO_fieldAddr, ↓regO_field, ↓regO_indexAddr, ↓regO_index, ↓regO_extract, ↓regO_builtin, ↓regO_grd, ↓regP_move, ↓regP_assign, ↓regP_pick, ↓regP_alloc, ↓regP_box, ↓regP_build, ↓regP_buildSlice, ↓regP_load, ↓regP_store, ↓regP_nilCheck, ↓regP_binOp, ↓regP_unOp, ↓regP_convert, ↓regP_makeFunc, ↓regP_makeSlice, ↓regP_slice, ↓regP_fieldAddr, ↓regP_field, ↓regP_indexAddr, ↓regP_index, ↓regP_extract, ↓regP_builtin, ↓regP_grd, ↓aop_build, ↓reduceIte, List.getD_cons_zero, List.getD_cons_succ, List.getD_nil, implies_true, Nat.reduceEqDiff, Nat.reduceAdd, Nat.reduceMul, Nat.reduceSub, Nat.reduceLT, Nat.reduceLeDiff, reduceCtorEq, decide_true, decide_false, and_self, and_true, true_and, false_and, or_true, true_or, false_or, or_false, Int.ofNat_eq_natCast, ge_iff_le, gt_iff_lt, Int.toNat_natCast, Bool.not_true, Bool.true_and, Bool.and_true, Bool.not_false, Int.reduceToNat, w_i64, w_i32, Int.natCast_zero]
  · try simp (disch := omega) only [push_cast, ↓regO_move, ↓regO_assign, ↓regO_pick, ↓regO_alloc, ↓regO_box, ↓regO_build, ↓regO_buildSlice, ↓regO_load, ↓regO_store, ↓regO_nilCheck, ↓regO_binOp, ↓regO_unOp, ↓regO_convert, ↓regO_makeFunc, ↓regO_makeSlice, ↓regO_slice, ↓regO_fieldAddr, ↓regO_field, ↓regO_indexAddr, ↓regO_index, ↓regO_extract, ↓regO_builtin, ↓regO_grd, ↓regP_move, ↓regP_assign, ↓regP_pick, ↓regP_alloc, ↓regP_box, ↓regP_build, ↓regP_buildSlice, ↓regP_load, ↓regP_store, ↓regP_nilCheck, ↓regP_binOp, ↓regP_unOp, ↓regP_convert, ↓regP_makeFunc, ↓regP_makeSlice, ↓regP_slice, ↓regP_fieldAddr, ↓regP_field, ↓regP_indexAddr, ↓regP_index, ↓regP_extract, ↓regP_builtin, ↓regP_grd, ↓aop_build, ↓reduceIte, List.getD_cons_zero, List.getD_cons_succ, List.getD_nil, implies_true, Nat.reduceEqDiff, Nat.reduceAdd, Nat.reduceMul, Nat.reduceSub, Nat.reduceLT, Nat.reduceLeDiff, reduceCtorEq, decide_true, decide_false, and_self, and_true, true_and, false_and, or_true, true_or, false_or, or_false, Int.ofNat_eq_natCast, ge_iff_le, gt_iff_lt, Int.toNat_natCast, Bool.not_true, Bool.true_and, Bool.and_true, Bool.not_false, Int.reduceToNat, w_i64, w_i32]
  rintro k ⟨hk4, hk5⟩
  by_cases hk : k < ss.length
  · obtain ⟨s1, s2⟩ := hS (ss.getD k []) (by simp [hk])
    have r1 := right_fn (ss.getD k []) s1 s2
    by_cases hb : rightS (ss.getD k [])
    · rw [rightB_true hb] at r1
      repeat' ((first
    | refine cs_seq ?_
    | refine cs_reg (by rfl) (fun K Kp hK hKp => ?_)
    | refine cs_drw mixed (by rfl) (by kernel_rfl) (fun K hK => ?_)
    | (refine hK _ _ ?_; try clear hKp; try clear hK; try clear Kp; try clear K)
    | refine cs_cond ?_
    | refine cs_ret (ret_fn ?_)
    | refine cs_scope ?_
    | refine cs_label ?_
    | refine cs_block ?_
    | refine cs_skip ?_
    | refine cs_exit ?_
    | (refine grdO_dec (fun hp => ?_) (fun hp => ?_) <;> first | (exfalso; omega; done) | skip)
    | (refine grdO_nd (fun hp => ?_) (fun hp => ?_) <;> first | (exfalso; omega; done) | skip)
    | (refine grdO_nb (fun hp => ?_) (fun hp => ?_) <;> first | (exfalso; omega; done) | skip)
    | (refine grdO_b (fun hp => ?_) (fun hp => ?_) <;> first | (exfalso; omega; done) | skip)
    | (refine grdP_dec (fun hp => ?_) (fun hp => ?_) <;> first | (exfalso; omega; done) | skip)
    | (refine grdP_nd (fun hp => ?_) (fun hp => ?_) <;> first | (exfalso; omega; done) | skip)
    | (refine grdP_nb (fun hp => ?_) (fun hp => ?_) <;> first | (exfalso; omega; done) | skip)
    | (refine grdP_b (fun hp => ?_) (fun hp => ?_) <;> first | (exfalso; omega; done) | skip)
    | (refine condK_d (fun hp => ?_) (fun hp => ?_) <;> first | (exfalso; omega; done) | skip)
    | (refine condK_nd (fun hp => ?_) (fun hp => ?_) <;> first | (exfalso; omega; done) | skip)
    | (refine condK_nb (fun hp => ?_) (fun hp => ?_) <;> first | (exfalso; omega; done) | skip)
    | (refine condK_b (fun hp => ?_) (fun hp => ?_) <;> first | (exfalso; omega; done) | skip)
    | (refine regO_call rfl ?_; refine CallK.fn (r1) (by simp only [push_cast]) rfl (by simp only [push_cast, and_self]) (by simp only [push_cast, and_self]) (by simp only [push_cast, ↓reduceIte, Nat.reduceEqDiff, Nat.reduceAdd]) ?_)
    | (with_reducible refine And.intro ?_ ?_; focus (first | omega | (constructor <;> omega) | (have hbits : IntKind.i64.bits = 64 := rfl; omega) | (simp [setR_at]; done) | (simp [setR_at]; omega)))) <;> try simp (disch := omega) only [push_cast, ↓regO_move, ↓regO_assign, ↓regO_pick, ↓regO_alloc, ↓regO_box, ↓regO_build, ↓regO_buildSlice, ↓regO_load, ↓regO_store, ↓regO_nilCheck, ↓regO_binOp, ↓regO_unOp, ↓regO_convert, ↓regO_makeFunc, ↓regO_makeSlice, ↓regO_slice, ↓regO_fieldAddr, ↓regO_field, ↓regO_indexAddr, ↓regO_index, ↓regO_extract, ↓regO_builtin, ↓regO_grd, ↓regP_move, ↓regP_assign, ↓regP_pick, ↓regP_alloc, ↓regP_box, ↓regP_build, ↓regP_buildSlice, ↓regP_load, ↓regP_store, ↓regP_nilCheck, ↓regP_binOp, ↓regP_unOp, ↓regP_convert, ↓regP_makeFunc, ↓regP_makeSlice, ↓regP_slice, ↓regP_fieldAddr, ↓regP_field, ↓regP_indexAddr, ↓regP_index, ↓regP_extract, ↓regP_builtin, ↓regP_grd, ↓aop_build, ↓reduceIte, List.getD_cons_zero, List.getD_cons_succ, List.getD_nil, implies_true, Nat.reduceEqDiff, Nat.reduceAdd, Nat.reduceMul, Nat.reduceSub, Nat.reduceLT, Nat.reduceLeDiff, reduceCtorEq, decide_true, decide_false, and_self, and_true, true_and, false_and, or_true, true_or, false_or, or_false, Int.ofNat_eq_natCast, ge_iff_le, gt_iff_lt, Int.toNat_natCast, Bool.not_true, Bool.true_and, Bool.and_true, Bool.not_false, Int.reduceToNat, w_i64, w_i32, setR_at])
      refine Again.intro (k + 1) ⟨by omega, fun j hj => ?_⟩ (by omega) (ofL []) .ofL ?_ ?_
      · by_cases e : j = k
        · subst e; exact hb
        · exact hk5 j (by omega)
      · try simp (disch := omega) only [push_cast, ↓regO_move, ↓regO_assign, ↓regO_pick, ↓regO_alloc, ↓regO_box, ↓regO_build, ↓regO_buildSlice, ↓regO_load, ↓regO_store, ↓regO_nilCheck, ↓regO_binOp, ↓regO_unOp, ↓regO_convert, ↓regO_makeFunc, ↓regO_makeSlice, ↓regO_slice, ↓regO_fieldAddr, ↓regO_field, ↓regO_indexAddr, ↓regO_index, ↓regO_extract, ↓regO_builtin, ↓regO_grd, ↓regP_move, ↓regP_assign, ↓regP_pick, ↓regP_alloc, ↓regP_box, ↓regP_build, ↓regP_buildSlice, ↓regP_load, ↓regP_store, ↓regP_nilCheck, ↓regP_binOp, ↓regP_unOp, ↓regP_convert, ↓regP_makeFunc, ↓regP_makeSlice, ↓regP_slice, ↓regP_fieldAddr, ↓regP_field, ↓regP_indexAddr, ↓regP_index, ↓regP_extract, ↓regP_builtin, ↓regP_grd, ↓aop_build, ↓reduceIte, List.getD_cons_zero, List.getD_cons_succ, List.getD_nil, implies_true, Nat.reduceEqDiff, Nat.reduceAdd, Nat.reduceMul, Nat.reduceSub, Nat.reduceLT, Nat.reduceLeDiff, reduceCtorEq, decide_true, decide_false, and_self, and_true, true_and, false_and, or_true, true_or, false_or, or_false, Int.ofNat_eq_natCast, ge_iff_le, gt_iff_lt, Int.toNat_natCast, Bool.not_true, Bool.true_and, Bool.and_true, Bool.not_false, Int.reduceToNat, w_i64, w_i32, Int.natCast_add, Int.cast_ofNat_Int]
      · try simp (disch := omega) only [push_cast, ↓regO_move, ↓regO_assign, ↓regO_pick, ↓regO_alloc, ↓regO_box, ↓regO_build, ↓regO_buildSlice, ↓regO_load, ↓regO_store, ↓regO_nilCheck, ↓regO_binOp, ↓regO_unOp, ↓regO_convert, ↓regO_makeFunc, ↓regO_makeSlice, ↓regO_slice, ↓regO_fieldAddr, ↓regO_field, ↓regO_indexAddr, ↓regO_index, ↓regO_extract, ↓regO_builtin, ↓regO_grd, ↓regP_move, ↓regP_assign, ↓regP_pick, ↓regP_alloc, ↓regP_box, ↓regP_build, ↓regP_buildSlice, ↓regP_load, ↓regP_store, ↓regP_nilCheck, ↓regP_binOp, ↓regP_unOp, ↓regP_convert, ↓regP_makeFunc, ↓regP_makeSlice, ↓regP_slice, ↓regP_fieldAddr, ↓regP_field, ↓regP_indexAddr, ↓regP_index, ↓regP_extract, ↓regP_builtin, ↓regP_grd, ↓aop_build, ↓reduceIte, List.getD_cons_zero, List.getD_cons_succ, List.getD_nil, implies_true, Nat.reduceEqDiff, Nat.reduceAdd, Nat.reduceMul, Nat.reduceSub, Nat.reduceLT, Nat.reduceLeDiff, reduceCtorEq, decide_true, decide_false, and_self, and_true, true_and, false_and, or_true, true_or, false_or, or_false, Int.ofNat_eq_natCast, ge_iff_le, gt_iff_lt, Int.toNat_natCast, Bool.not_true, Bool.true_and, Bool.and_true, Bool.not_false, Int.reduceToNat, w_i64, w_i32]
    · rw [rightB_false hb] at r1
      repeat' ((first
    | refine cs_seq ?_
    | refine cs_reg (by rfl) (fun K Kp hK hKp => ?_)
    | refine cs_drw mixed (by rfl) (by kernel_rfl) (fun K hK => ?_)
    | (refine hK _ _ ?_; try clear hKp; try clear hK; try clear Kp; try clear K)
    | refine cs_cond ?_
    | refine cs_ret (ret_fn ?_)
    | refine cs_scope ?_
    | refine cs_label ?_
    | refine cs_block ?_
    | refine cs_skip ?_
    | refine cs_exit ?_
    | (refine grdO_dec (fun hp => ?_) (fun hp => ?_) <;> first | (exfalso; omega; done) | skip)
    | (refine grdO_nd (fun hp => ?_) (fun hp => ?_) <;> first | (exfalso; omega; done) | skip)
    | (refine grdO_nb (fun hp => ?_) (fun hp => ?_) <;> first | (exfalso; omega; done) | skip)
    | (refine grdO_b (fun hp => ?_) (fun hp => ?_) <;> first | (exfalso; omega; done) | skip)
    | (refine grdP_dec (fun hp => ?_) (fun hp => ?_) <;> first | (exfalso; omega; done) | skip)
    | (refine grdP_nd (fun hp => ?_) (fun hp => ?_) <;> first | (exfalso; omega; done) | skip)
    | (refine grdP_nb (fun hp => ?_) (fun hp => ?_) <;> first | (exfalso; omega; done) | skip)
    | (refine grdP_b (fun hp => ?_) (fun hp => ?_) <;> first | (exfalso; omega; done) | skip)
    | (refine condK_d (fun hp => ?_) (fun hp => ?_) <;> first | (exfalso; omega; done) | skip)
    | (refine condK_nd (fun hp => ?_) (fun hp => ?_) <;> first | (exfalso; omega; done) | skip)
    | (refine condK_nb (fun hp => ?_) (fun hp => ?_) <;> first | (exfalso; omega; done) | skip)
    | (refine condK_b (fun hp => ?_) (fun hp => ?_) <;> first | (exfalso; omega; done) | skip)
    | (refine regO_call rfl ?_; refine CallK.fn (r1) (by simp only [push_cast]) rfl (by simp only [push_cast, and_self]) (by simp only [push_cast, and_self]) (by simp only [push_cast, ↓reduceIte, Nat.reduceEqDiff, Nat.reduceAdd]) ?_)
    | (with_reducible refine And.intro ?_ ?_; focus (first | omega | (constructor <;> omega) | (have hbits : IntKind.i64.bits = 64 := rfl; omega) | (simp [setR_at]; done) | (simp [setR_at]; omega)))) <;> try simp (disch := omega) only [push_cast, ↓regO_move, ↓regO_assign, ↓regO_pick, ↓regO_alloc, ↓regO_box, ↓regO_build, ↓regO_buildSlice, ↓regO_load, ↓regO_store, ↓regO_nilCheck, ↓regO_binOp, ↓regO_unOp, ↓regO_convert, ↓regO_makeFunc, ↓regO_makeSlice, ↓regO_slice, ↓regO_fieldAddr, ↓regO_field, ↓regO_indexAddr, ↓regO_index, ↓regO_extract, ↓regO_builtin, ↓regO_grd, ↓regP_move, ↓regP_assign, ↓regP_pick, ↓regP_alloc, ↓regP_box, ↓regP_build, ↓regP_buildSlice, ↓regP_load, ↓regP_store, ↓regP_nilCheck, ↓regP_binOp, ↓regP_unOp, ↓regP_convert, ↓regP_makeFunc, ↓regP_makeSlice, ↓regP_slice, ↓regP_fieldAddr, ↓regP_field, ↓regP_indexAddr, ↓regP_index, ↓regP_extract, ↓regP_builtin, ↓regP_grd, ↓aop_build, ↓reduceIte, List.getD_cons_zero, List.getD_cons_succ, List.getD_nil, implies_true, Nat.reduceEqDiff, Nat.reduceAdd, Nat.reduceMul, Nat.reduceSub, Nat.reduceLT, Nat.reduceLeDiff, reduceCtorEq, decide_true, decide_false, and_self, and_true, true_and, false_and, or_true, true_or, false_or, or_false, Int.ofNat_eq_natCast, ge_iff_le, gt_iff_lt, Int.toNat_natCast, Bool.not_true, Bool.true_and, Bool.and_true, Bool.not_false, Int.reduceToNat, w_i64, w_i32, setR_at])
      refine cs_ret ?_
      try simp (disch := omega) only [push_cast, ↓regO_move, ↓regO_assign, ↓regO_pick, ↓regO_alloc, ↓regO_box, ↓regO_build, ↓regO_buildSlice, ↓regO_load, ↓regO_store, ↓regO_nilCheck, ↓regO_binOp, ↓regO_unOp, ↓regO_convert, ↓regO_makeFunc, ↓regO_makeSlice, ↓regO_slice, ↓regO_fieldAddr, ↓regO_field, ↓regO_indexAddr, ↓regO_index, ↓regO_extract, ↓regO_builtin, ↓regO_grd, ↓regP_move, ↓regP_assign, ↓regP_pick, ↓regP_alloc, ↓regP_box, ↓regP_build, ↓regP_buildSlice, ↓regP_load, ↓regP_store, ↓regP_nilCheck, ↓regP_binOp, ↓regP_unOp, ↓regP_convert, ↓regP_makeFunc, ↓regP_makeSlice, ↓regP_slice, ↓regP_fieldAddr, ↓regP_field, ↓regP_indexAddr, ↓regP_index, ↓regP_extract, ↓regP_builtin, ↓regP_grd, ↓aop_build, ↓reduceIte, List.getD_cons_zero, List.getD_cons_succ, List.getD_nil, implies_true, Nat.reduceEqDiff, Nat.reduceAdd, Nat.reduceMul, Nat.reduceSub, Nat.reduceLT, Nat.reduceLeDiff, reduceCtorEq, decide_true, decide_false, and_self, and_true, true_and, false_and, or_true, true_or, false_or, or_false, Int.ofNat_eq_natCast, ge_iff_le, gt_iff_lt, Int.toNat_natCast, Bool.not_true, Bool.true_and, Bool.and_true, Bool.not_false, Int.reduceToNat, w_i64, w_i32]
      refine ret_fn ?_
      try simp (disch := omega) only [push_cast, ↓regO_move, ↓regO_assign, ↓regO_pick, ↓regO_alloc, ↓regO_box, ↓regO_build, ↓regO_buildSlice, ↓regO_load, ↓regO_store, ↓regO_nilCheck, ↓regO_binOp, ↓regO_unOp, ↓regO_convert, ↓regO_makeFunc, ↓regO_makeSlice, ↓regO_slice, ↓regO_fieldAddr, ↓regO_field, ↓regO_indexAddr, ↓regO_index, ↓regO_extract, ↓regO_builtin, ↓regO_grd, ↓regP_move, ↓regP_assign, ↓regP_pick, ↓regP_alloc, ↓regP_box, ↓regP_build, ↓regP_buildSlice, ↓regP_load, ↓regP_store, ↓regP_nilCheck, ↓regP_binOp, ↓regP_unOp, ↓regP_convert, ↓regP_makeFunc, ↓regP_makeSlice, ↓regP_slice, ↓regP_fieldAddr, ↓regP_field, ↓regP_indexAddr, ↓regP_index, ↓regP_extract, ↓regP_builtin, ↓regP_grd, ↓aop_build, ↓reduceIte, List.getD_cons_zero, List.getD_cons_succ, List.getD_nil, implies_true, Nat.reduceEqDiff, Nat.reduceAdd, Nat.reduceMul, Nat.reduceSub, Nat.reduceLT, Nat.reduceLeDiff, reduceCtorEq, decide_true, decide_false, and_self, and_true, true_and, false_and, or_true, true_or, false_or, or_false, Int.ofNat_eq_natCast, ge_iff_le, gt_iff_lt, Int.toNat_natCast, Bool.not_true, Bool.true_and, Bool.and_true, Bool.not_false, Int.reduceToNat, w_i64, w_i32]
  have hk6 : k = ss.length := by omega
  subst hk6
  have hSR : ∀ x ∈ ss, rightS x := fun x hx => by
    obtain ⟨i, hi, rfl⟩ := List.getElem_of_mem hx
    have := hk5 i hi
    simpa [hi] using this
  have g1 := glyph_fn l (by omega) hGI c hc
  have g2 := rglyph_fn l (by omega) hGI c hc
  have g3 := class_fn cl (by have := h2.2; omega) at_ (setR ss) g
  have g4 := rof_fn cl (by have := h2.2; omega) g
  have g5 := mark_fn (classR cl) at_ ss hss hSR set g hset hg
  have g6 := rmark_fn (classR cl) at_ ss hss hSR set g hset hg
  repeat' ((first
    | refine cs_seq ?_
    | refine cs_reg (by rfl) (fun K Kp hK hKp => ?_)
    | refine cs_drw mixed (by rfl) (by kernel_rfl) (fun K hK => ?_)
    | (refine hK _ _ ?_; try clear hKp; try clear hK; try clear Kp; try clear K)
    | refine cs_cond ?_
    | refine cs_ret (ret_fn ?_)
    | refine cs_scope ?_
    | refine cs_label ?_
    | refine cs_block ?_
    | refine cs_skip ?_
    | refine cs_exit ?_
    | (refine grdO_dec (fun hp => ?_) (fun hp => ?_) <;> first | (exfalso; omega; done) | skip)
    | (refine grdO_nd (fun hp => ?_) (fun hp => ?_) <;> first | (exfalso; omega; done) | skip)
    | (refine grdO_nb (fun hp => ?_) (fun hp => ?_) <;> first | (exfalso; omega; done) | skip)
    | (refine grdO_b (fun hp => ?_) (fun hp => ?_) <;> first | (exfalso; omega; done) | skip)
    | (refine grdP_dec (fun hp => ?_) (fun hp => ?_) <;> first | (exfalso; omega; done) | skip)
    | (refine grdP_nd (fun hp => ?_) (fun hp => ?_) <;> first | (exfalso; omega; done) | skip)
    | (refine grdP_nb (fun hp => ?_) (fun hp => ?_) <;> first | (exfalso; omega; done) | skip)
    | (refine grdP_b (fun hp => ?_) (fun hp => ?_) <;> first | (exfalso; omega; done) | skip)
    | (refine condK_d (fun hp => ?_) (fun hp => ?_) <;> first | (exfalso; omega; done) | skip)
    | (refine condK_nd (fun hp => ?_) (fun hp => ?_) <;> first | (exfalso; omega; done) | skip)
    | (refine condK_nb (fun hp => ?_) (fun hp => ?_) <;> first | (exfalso; omega; done) | skip)
    | (refine condK_b (fun hp => ?_) (fun hp => ?_) <;> first | (exfalso; omega; done) | skip)
    | (refine regP_call rfl (g1) (by simp only [push_cast]) rfl (by simp only [push_cast, and_self]) (by simp only [push_cast, and_self]) ?_)
    | (refine regP_call rfl (g2) (by simp only [push_cast]) rfl (by simp only [push_cast, and_self]) (by simp only [push_cast, and_self]) ?_)
    | (refine regP_call rfl (g3) (by simp only [push_cast]) rfl (by simp only [push_cast, and_self]) (by simp only [push_cast, and_self]) ?_)
    | (refine regP_call rfl (g4) (by simp only [push_cast]) rfl (by simp only [push_cast, and_self]) (by simp only [push_cast, and_self]) ?_)
    | (refine regP_call rfl (g5) (by simp only [push_cast]) rfl (by simp only [push_cast, and_self]) (by simp only [push_cast, and_self]) ?_)
    | (refine regP_call rfl (g6) (by simp only [push_cast]) rfl (by simp only [push_cast, and_self]) (by simp only [push_cast, and_self]) ?_)
    | (with_reducible refine And.intro ?_ ?_; focus (first | omega | (constructor <;> omega) | (have hbits : IntKind.i64.bits = 64 := rfl; omega) | (simp []; done) | (simp []; omega)))) <;> try simp (disch := omega) only [push_cast, ↓regO_move, ↓regO_assign, ↓regO_pick, ↓regO_alloc, ↓regO_box, ↓regO_build, ↓regO_buildSlice, ↓regO_load, ↓regO_store, ↓regO_nilCheck, ↓regO_binOp, ↓regO_unOp, ↓regO_convert, ↓regO_makeFunc, ↓regO_makeSlice, ↓regO_slice, ↓regO_fieldAddr, ↓regO_field, ↓regO_indexAddr, ↓regO_index, ↓regO_extract, ↓regO_builtin, ↓regO_grd, ↓regP_move, ↓regP_assign, ↓regP_pick, ↓regP_alloc, ↓regP_box, ↓regP_build, ↓regP_buildSlice, ↓regP_load, ↓regP_store, ↓regP_nilCheck, ↓regP_binOp, ↓regP_unOp, ↓regP_convert, ↓regP_makeFunc, ↓regP_makeSlice, ↓regP_slice, ↓regP_fieldAddr, ↓regP_field, ↓regP_indexAddr, ↓regP_index, ↓regP_extract, ↓regP_builtin, ↓regP_grd, ↓aop_build, ↓reduceIte, List.getD_cons_zero, List.getD_cons_succ, List.getD_nil, implies_true, Nat.reduceEqDiff, Nat.reduceAdd, Nat.reduceMul, Nat.reduceSub, Nat.reduceLT, Nat.reduceLeDiff, reduceCtorEq, decide_true, decide_false, and_self, and_true, true_and, false_and, or_true, true_or, false_or, or_false, Int.ofNat_eq_natCast, ge_iff_le, gt_iff_lt, Int.toNat_natCast, Bool.not_true, Bool.true_and, Bool.and_true, Bool.not_false, Int.reduceToNat, w_i64, w_i32])
end Go.Proofs.Ytohmjbgcmccplaa
