/- What the reader of triples tells. No condition. -/
import Derived.Test.YtohmjbgcmccplaaC11
namespace Go.Proofs.Ytohmjbgcmccplaa
open Go Go.Ab
set_option maxRecDepth 100000
set_option maxHeartbeats 4000000
set_option linter.unusedSimpArgs false
set_option linter.unusedVariables false

theorem classR_snoc (l : List Cls) (a b c : Int) : classR l ++ [[.sc (.int .i64 a), .sc (.int .i64 b), .sc (.int .i64 c)]] = classR (l ++ [⟨a, b, c⟩]) := by simp [classR, crow]

def triA (b : List Int) (at_ : Int) (i : Nat) (j : Int) : Int := nm b (at_ + 4 + (3 * i + j) * 2) 2

/-- The triples from the i-th on, m of them. -/
def triL (b : List Int) (at_ : Int) : Nat → Nat → Int → List Cls → Option (List Cls)
  | 0, _, _, l => some l
  | m + 1, i, last, l => if nm b (at_ + 4 + (3 * i) * 2) 2 ≤ last ∨ nm b (at_ + 4 + (3 * i + 1) * 2) 2 < nm b (at_ + 4 + (3 * i) * 2) 2 then none
    else triL b at_ m (i + 1) (nm b (at_ + 4 + (3 * i + 1) * 2) 2) (l ++ [⟨nm b (at_ + 4 + (3 * i) * 2) 2, nm b (at_ + 4 + (3 * i + 1) * 2) 2, nm b (at_ + 4 + (3 * i + 2) * 2) 2⟩])

theorem triL_step {b : List Int} {at_ : Int} {n k : Nat} {last : Int} {l : List Cls} (hk : k < n) : triL b at_ (n - k) k last l =
    if nm b (at_ + 4 + (3 * k) * 2) 2 ≤ last ∨ nm b (at_ + 4 + (3 * k + 1) * 2) 2 < nm b (at_ + 4 + (3 * k) * 2) 2 then none
    else triL b at_ (n - (k + 1)) (k + 1) (nm b (at_ + 4 + (3 * k + 1) * 2) 2) (l ++ [⟨nm b (at_ + 4 + (3 * k) * 2) 2, nm b (at_ + 4 + (3 * k + 1) * 2) 2, nm b (at_ + 4 + (3 * k + 2) * 2) 2⟩]) := by
  rw [show n - k = (n - (k + 1)) + 1 by omega, triL]

def triS (b : List Int) (at_ : Int) : Option (List Cls) := match rd b (at_ + 2) 2 with
  | none => none
  | some n => if at_ + 4 + 3 * n * 2 ≤ b.length then triL b at_ n.toNat 0 (-1) [] else none

def clsA (r : Option (List Cls)) : AV := .tup [.p (.fro (classR (r.getD []))), boolA r.isSome]
theorem clsA_none : clsA none = .tup [.p (.fro []), boolA false] := rfl
attribute [push_cast] clsA_none

theorem triples_loop (b : List Int) (hb : Bytes b) (hl : b.length ≤ 1000000) (at_ : Int) (n : Nat) (ha : -1000000 ≤ at_ ∧ at_ ≤ 1000000000) (h6 : rd b (at_ + 2) 2 = some (n : Int)) (hn : n ≤ 65535) (hc : 0 ≤ at_ + 2 ∧ at_ + 4 + 3 * n * 2 ≤ b.length)
    (res : Option (List Cls)) (hres : triL b at_ n 0 (-1) [] = res) : AFun Try.prog 49 [bytesA b, i64 at_] (clsA res) := by
  refine acalls_body Try.func49 rfl Try.ntmps49 (by simp) ?_
  rw [Try.results49]
  have e2 : rowS b (at_ + 4) (3 * n) 2 = some (rowN b (at_ + 4) 2 (3 * n)) := by
    unfold rowS; rw [if_pos (by omega), show (3 * (n : Int)).toNat = 3 * n by omega]
  have c1 := u16_fn b hb (by omega) (at_ + 2) (by omega) (by omega)
  have c3 := row_fn b hb (by omega) (at_ + 4) (3 * n) 2 (by omega) (by omega) (by omega)
  rw [h6] at c1
  rw [e2] at c3
  simp only [Option.getD_some, Option.isSome_some] at c1 c3
  repeat' ((first
    | refine cs_seq ?_
    | refine cs_reg (by rfl) (fun K Kp hK hKp => ?_)
    | refine cs_drw mixed (by rfl) (by kernel_rfl) (fun K hK => ?_)
    | (refine hK _ _ ?_; try clear hKp; try clear hK; try clear Kp; try clear K)
    | refine cs_cond ?_
    | refine cs_ret (ret_fn ?_)
    | refine cs_scope ?_
    | refine cs_label ?_
    | refine cs_block ?_
    | refine cs_skip ?_
    | refine cs_exit ?_
    | ((first | refine grdO_dec (fun hp => ?_) (fun hp => ?_) | refine grdO_nd (fun hp => ?_) (fun hp => ?_) | refine grdO_nb (fun hp => ?_) (fun hp => ?_) | refine grdO_b (fun hp => ?_) (fun hp => ?_) | refine grdP_dec (fun hp => ?_) (fun hp => ?_) | refine grdP_nd (fun hp => ?_) (fun hp => ?_) | refine grdP_nb (fun hp => ?_) (fun hp => ?_) | refine grdP_b (fun hp => ?_) (fun hp => ?_) | refine condK_d (fun hp => ?_) (fun hp => ?_) | refine condK_nd (fun hp => ?_) (fun hp => ?_) | refine condK_nb (fun hp => ?_) (fun hp => ?_) | refine condK_b (fun hp => ?_) (fun hp => ?_)) <;> first | (exfalso; omega; done) | skip)
    | (refine regO_call rfl ?_; refine CallK.fn (c1) (by simp only [push_cast]) rfl (by simp only [push_cast, and_self]) (by simp only [push_cast, and_self]) (by simp only [push_cast, ↓reduceIte, Nat.reduceEqDiff, Nat.reduceAdd]) ?_)
    | (refine regO_call rfl ?_; refine CallK.fn (c3) (by simp only [push_cast]) rfl (by simp only [push_cast, and_self]) (by simp only [push_cast, and_self]) (by simp only [push_cast, ↓reduceIte, Nat.reduceEqDiff, Nat.reduceAdd]) ?_)
    | (with_reducible refine And.intro ?_ ?_; focus (first | omega | (constructor <;> omega) | (have hbits : IntKind.i64.bits = 64 := rfl; omega) | (simp []; done) | (simp []; omega)))) <;> try simp (disch := omega) only [push_cast, ↓omv, ↓oas, ↓opk, ↓oal, ↓obx, ↓obd, ↓obs, ↓old, ↓ost, ↓onc, ↓obo, ↓ouo, ↓ocv, ↓omf, ↓oms, ↓osl, ↓ofa, ↓ofd, ↓oia, ↓oix, ↓oex, ↓obi, ↓ogd, ↓pmv, ↓pas, ↓ppk, ↓pal, ↓pbx, ↓pbd, ↓pbs, ↓pld, ↓pst, ↓pnc, ↓pbo, ↓puo, ↓pcv, ↓pmf, ↓pms, ↓psl, ↓pfa, ↓pfd, ↓pia, ↓pix, ↓pex, ↓pbi, ↓pgd, ↓aop_build, ↓reduceIte, Nat.reduceEqDiff, Nat.reduceAdd, Nat.reduceMul, Nat.reduceSub, Nat.reduceLT, Nat.reduceLeDiff, reduceCtorEq, Int.reduceToNat])
  refine cs_adopt 10 85 3 rfl ?_
  refine cs_lp (ι := Nat × Int × List Cls) (fun q => [(8, intsA (rowN b (at_ + 4) 2 (3 * n))), (10, .ref 0 q.2.2.length), (11, i64 q.2.1), (12, i64 (3 * q.1))]) (fun q => [(0, .arr 85 3 (classR q.2.2))]) 1
    (fun q => q.1 ≤ n ∧ -1 ≤ q.2.1 ∧ q.2.2.length ≤ q.1 ∧ triL b at_ (n - q.1) q.1 q.2.1 q.2.2 = res) (fun q => n - q.1) (0, -1, [])
    ⟨by simp, by simp, by simp, by simpa using hres⟩ ⟨ofL [(0, 31)], .ofL, ?_, ?_⟩ ?_
  · try simp (disch := omega) only [push_cast, ↓omv, ↓oas, ↓opk, ↓oal, ↓obx, ↓obd, ↓obs, ↓old, ↓ost, ↓onc, ↓obo, ↓ouo, ↓ocv, ↓omf, ↓oms, ↓osl, ↓ofa, ↓ofd, ↓oia, ↓oix, ↓oex, ↓obi, ↓ogd, ↓pmv, ↓pas, ↓ppk, ↓pal, ↓pbx, ↓pbd, ↓pbs, ↓pld, ↓pst, ↓pnc, ↓pbo, ↓puo, ↓pcv, ↓pmf, ↓pms, ↓psl, ↓pfa, ↓pfd, ↓pia, ↓pix, ↓pex, ↓pbi, ↓pgd, ↓aop_build, ↓reduceIte, Nat.reduceEqDiff, Nat.reduceAdd, Nat.reduceMul, Nat.reduceSub, Nat.reduceLT, Nat.reduceLeDiff, reduceCtorEq, Int.reduceToNat, Int.natCast_zero, Int.mul_zero]
  · try simp (disch := omega) only [push_cast, ↓omv, ↓oas, ↓opk, ↓oal, ↓obx, ↓obd, ↓obs, ↓old, ↓ost, ↓onc, ↓obo, ↓ouo, ↓ocv, ↓omf, ↓oms, ↓osl, ↓ofa, ↓ofd, ↓oia, ↓oix, ↓oex, ↓obi, ↓ogd, ↓pmv, ↓pas, ↓ppk, ↓pal, ↓pbx, ↓pbd, ↓pbs, ↓pld, ↓pst, ↓pnc, ↓pbo, ↓puo, ↓pcv, ↓pmf, ↓pms, ↓psl, ↓pfa, ↓pfd, ↓pia, ↓pix, ↓pex, ↓pbi, ↓pgd, ↓aop_build, ↓reduceIte, Nat.reduceEqDiff, Nat.reduceAdd, Nat.reduceMul, Nat.reduceSub, Nat.reduceLT, Nat.reduceLeDiff, reduceCtorEq, Int.reduceToNat]
  rintro ⟨k, last, lk⟩ ⟨hk1, hk2, hk3, hk4⟩
  simp only [] at hk1 hk2 hk3 hk4 ⊢
  have bnd : k < n → 0 ≤ nm b (at_ + 4 + (3 * k) * 2) 2 ∧ 0 ≤ nm b (at_ + 4 + (3 * k + 1) * 2) 2 := fun hk => by
    have h1 := nm2 hb (a := at_ + 4 + (3 * k) * 2) (by omega) (by omega)
    have h2 := nm2 hb (a := at_ + 4 + (3 * k + 1) * 2) (by omega) (by omega)
    exact ⟨h1.1, h2.1⟩
  repeat' ((first
    | refine cs_seq ?_
    | (refine cs_freeze 0 rfl ?_; refine cs_frozen 4 rfl rfl (by simp only [classR_len]) ?_; refine cs_ret (ret_fn ?_); try simp (disch := omega) only [push_cast, ↓omv, ↓oas, ↓opk, ↓oal, ↓obx, ↓obd, ↓obs, ↓old, ↓ost, ↓onc, ↓obo, ↓ouo, ↓ocv, ↓omf, ↓oms, ↓osl, ↓ofa, ↓ofd, ↓oia, ↓oix, ↓oex, ↓obi, ↓ogd, ↓pmv, ↓pas, ↓ppk, ↓pal, ↓pbx, ↓pbd, ↓pbs, ↓pld, ↓pst, ↓pnc, ↓pbo, ↓puo, ↓pcv, ↓pmf, ↓pms, ↓psl, ↓pfa, ↓pfd, ↓pia, ↓pix, ↓pex, ↓pbi, ↓pgd, ↓aop_build, ↓reduceIte, Nat.reduceEqDiff, Nat.reduceAdd, Nat.reduceMul, Nat.reduceSub, Nat.reduceLT, Nat.reduceLeDiff, reduceCtorEq, Int.reduceToNat])
    | refine cs_reg (by rfl) (fun K Kp hK hKp => ?_)
    | refine cs_drw mixed (by rfl) (by kernel_rfl) (fun K hK => ?_)
    | (refine hK _ _ ?_; try clear hKp; try clear hK; try clear Kp; try clear K)
    | refine cs_cond ?_
    | refine cs_ret (ret_fn ?_)
    | refine cs_scope ?_
    | refine cs_label ?_
    | refine cs_block ?_
    | refine cs_skip ?_
    | refine cs_exit ?_
    | ((first | refine grdO_dec (fun hp => ?_) (fun hp => ?_) | refine grdO_nd (fun hp => ?_) (fun hp => ?_) | refine grdO_nb (fun hp => ?_) (fun hp => ?_) | refine grdO_b (fun hp => ?_) (fun hp => ?_) | refine grdP_dec (fun hp => ?_) (fun hp => ?_) | refine grdP_nd (fun hp => ?_) (fun hp => ?_) | refine grdP_nb (fun hp => ?_) (fun hp => ?_) | refine grdP_b (fun hp => ?_) (fun hp => ?_) | refine condK_d (fun hp => ?_) (fun hp => ?_) | refine condK_nd (fun hp => ?_) (fun hp => ?_) | refine condK_nb (fun hp => ?_) (fun hp => ?_) | refine condK_b (fun hp => ?_) (fun hp => ?_)) <;> first | (exfalso; omega; done) | skip)
    | (with_reducible refine And.intro ?_ ?_; focus (first | omega | (constructor <;> omega) | (have hbits : IntKind.i64.bits = 64 := rfl; omega) | (simp [rowN_len, rowR_at, Int.toNat_of_nonneg, Int.natCast_mul, Int.cast_ofNat_Int, classR_snoc, maxLen]; done) | (simp [rowN_len, rowR_at, Int.toNat_of_nonneg, Int.natCast_mul, Int.cast_ofNat_Int, classR_snoc, maxLen]; omega)))) <;> try simp (disch := omega) only [push_cast, ↓omv, ↓oas, ↓opk, ↓oal, ↓obx, ↓obd, ↓obs, ↓old, ↓ost, ↓onc, ↓obo, ↓ouo, ↓ocv, ↓omf, ↓oms, ↓osl, ↓ofa, ↓ofd, ↓oia, ↓oix, ↓oex, ↓obi, ↓ogd, ↓pmv, ↓pas, ↓ppk, ↓pal, ↓pbx, ↓pbd, ↓pbs, ↓pld, ↓pst, ↓pnc, ↓pbo, ↓puo, ↓pcv, ↓pmf, ↓pms, ↓psl, ↓pfa, ↓pfd, ↓pia, ↓pix, ↓pex, ↓pbi, ↓pgd, ↓aop_build, ↓reduceIte, Nat.reduceEqDiff, Nat.reduceAdd, Nat.reduceMul, Nat.reduceSub, Nat.reduceLT, Nat.reduceLeDiff, reduceCtorEq, Int.reduceToNat, rowN_len, rowR_at, Int.toNat_of_nonneg, Int.natCast_mul, Int.cast_ofNat_Int, classR_snoc, maxLen])
  · have hstep := triL_step (b := b) (at_ := at_) (last := last) (l := lk) (show k < n by omega)
    rw [hk4, if_pos (by omega)] at hstep
    subst hstep
    refine cs_ret ?_
    try simp (disch := omega) only [push_cast, ↓omv, ↓oas, ↓opk, ↓oal, ↓obx, ↓obd, ↓obs, ↓old, ↓ost, ↓onc, ↓obo, ↓ouo, ↓ocv, ↓omf, ↓oms, ↓osl, ↓ofa, ↓ofd, ↓oia, ↓oix, ↓oex, ↓obi, ↓ogd, ↓pmv, ↓pas, ↓ppk, ↓pal, ↓pbx, ↓pbd, ↓pbs, ↓pld, ↓pst, ↓pnc, ↓pbo, ↓puo, ↓pcv, ↓pmf, ↓pms, ↓psl, ↓pfa, ↓pfd, ↓pia, ↓pix, ↓pex, ↓pbi, ↓pgd, ↓aop_build, ↓reduceIte, Nat.reduceEqDiff, Nat.reduceAdd, Nat.reduceMul, Nat.reduceSub, Nat.reduceLT, Nat.reduceLeDiff, reduceCtorEq, Int.reduceToNat]
    refine ret_fn ?_
    try simp (disch := omega) only [push_cast, ↓omv, ↓oas, ↓opk, ↓oal, ↓obx, ↓obd, ↓obs, ↓old, ↓ost, ↓onc, ↓obo, ↓ouo, ↓ocv, ↓omf, ↓oms, ↓osl, ↓ofa, ↓ofd, ↓oia, ↓oix, ↓oex, ↓obi, ↓ogd, ↓pmv, ↓pas, ↓ppk, ↓pal, ↓pbx, ↓pbd, ↓pbs, ↓pld, ↓pst, ↓pnc, ↓pbo, ↓puo, ↓pcv, ↓pmf, ↓pms, ↓psl, ↓pfa, ↓pfd, ↓pia, ↓pix, ↓pex, ↓pbi, ↓pgd, ↓aop_build, ↓reduceIte, Nat.reduceEqDiff, Nat.reduceAdd, Nat.reduceMul, Nat.reduceSub, Nat.reduceLT, Nat.reduceLeDiff, reduceCtorEq, Int.reduceToNat]
  · have hstep := triL_step (b := b) (at_ := at_) (last := last) (l := lk) (show k < n by omega)
    rw [hk4, if_pos (by omega)] at hstep
    subst hstep
    refine cs_ret ?_
    try simp (disch := omega) only [push_cast, ↓omv, ↓oas, ↓opk, ↓oal, ↓obx, ↓obd, ↓obs, ↓old, ↓ost, ↓onc, ↓obo, ↓ouo, ↓ocv, ↓omf, ↓oms, ↓osl, ↓ofa, ↓ofd, ↓oia, ↓oix, ↓oex, ↓obi, ↓ogd, ↓pmv, ↓pas, ↓ppk, ↓pal, ↓pbx, ↓pbd, ↓pbs, ↓pld, ↓pst, ↓pnc, ↓pbo, ↓puo, ↓pcv, ↓pmf, ↓pms, ↓psl, ↓pfa, ↓pfd, ↓pia, ↓pix, ↓pex, ↓pbi, ↓pgd, ↓aop_build, ↓reduceIte, Nat.reduceEqDiff, Nat.reduceAdd, Nat.reduceMul, Nat.reduceSub, Nat.reduceLT, Nat.reduceLeDiff, reduceCtorEq, Int.reduceToNat]
    refine ret_fn ?_
    try simp (disch := omega) only [push_cast, ↓omv, ↓oas, ↓opk, ↓oal, ↓obx, ↓obd, ↓obs, ↓old, ↓ost, ↓onc, ↓obo, ↓ouo, ↓ocv, ↓omf, ↓oms, ↓osl, ↓ofa, ↓ofd, ↓oia, ↓oix, ↓oex, ↓obi, ↓ogd, ↓pmv, ↓pas, ↓ppk, ↓pal, ↓pbx, ↓pbd, ↓pbs, ↓pld, ↓pst, ↓pnc, ↓pbo, ↓puo, ↓pcv, ↓pmf, ↓pms, ↓psl, ↓pfa, ↓pfd, ↓pia, ↓pix, ↓pex, ↓pbi, ↓pgd, ↓aop_build, ↓reduceIte, Nat.reduceEqDiff, Nat.reduceAdd, Nat.reduceMul, Nat.reduceSub, Nat.reduceLT, Nat.reduceLeDiff, reduceCtorEq, Int.reduceToNat]
  · have hstep := triL_step (b := b) (at_ := at_) (last := last) (l := lk) (show k < n by omega)
    rw [hk4, if_neg (by omega)] at hstep
    have hb2 := bnd (by omega)
    refine Again.intro (k + 1, nm b (at_ + 4 + (3 * k + 1) * 2) 2, lk ++ [⟨nm b (at_ + 4 + (3 * k) * 2) 2, nm b (at_ + 4 + (3 * k + 1) * 2) 2, nm b (at_ + 4 + (3 * k + 2) * 2) 2⟩]) ⟨?_, ?_, ?_, hstep.symm⟩ ?_ (ofL [(0, 39)]) .ofL ?_ ?_ <;> try simp only []
    · omega
    · omega
    · simp; omega
    · omega
    · try simp (disch := omega) only [push_cast, ↓omv, ↓oas, ↓opk, ↓oal, ↓obx, ↓obd, ↓obs, ↓old, ↓ost, ↓onc, ↓obo, ↓ouo, ↓ocv, ↓omf, ↓oms, ↓osl, ↓ofa, ↓ofd, ↓oia, ↓oix, ↓oex, ↓obi, ↓ogd, ↓pmv, ↓pas, ↓ppk, ↓pal, ↓pbx, ↓pbd, ↓pbs, ↓pld, ↓pst, ↓pnc, ↓pbo, ↓puo, ↓pcv, ↓pmf, ↓pms, ↓psl, ↓pfa, ↓pfd, ↓pia, ↓pix, ↓pex, ↓pbi, ↓pgd, ↓aop_build, ↓reduceIte, Nat.reduceEqDiff, Nat.reduceAdd, Nat.reduceMul, Nat.reduceSub, Nat.reduceLT, Nat.reduceLeDiff, reduceCtorEq, Int.reduceToNat, Int.natCast_add, Int.cast_ofNat_Int, Int.mul_add, Int.mul_one, List.length_append]
    · try simp (disch := omega) only [push_cast, ↓omv, ↓oas, ↓opk, ↓oal, ↓obx, ↓obd, ↓obs, ↓old, ↓ost, ↓onc, ↓obo, ↓ouo, ↓ocv, ↓omf, ↓oms, ↓osl, ↓ofa, ↓ofd, ↓oia, ↓oix, ↓oex, ↓obi, ↓ogd, ↓pmv, ↓pas, ↓ppk, ↓pal, ↓pbx, ↓pbd, ↓pbs, ↓pld, ↓pst, ↓pnc, ↓pbo, ↓puo, ↓pcv, ↓pmf, ↓pms, ↓psl, ↓pfa, ↓pfd, ↓pia, ↓pix, ↓pex, ↓pbi, ↓pgd, ↓aop_build, ↓reduceIte, Nat.reduceEqDiff, Nat.reduceAdd, Nat.reduceMul, Nat.reduceSub, Nat.reduceLT, Nat.reduceLeDiff, reduceCtorEq, Int.reduceToNat]
  · rw [show n - k = 0 by omega, triL] at hk4
    subst hk4
    simp [clsA, idsLt, idsLtL, i64, boolA]
end Go.Proofs.Ytohmjbgcmccplaa
