/- What the readers of numbers tell. No condition. -/
import Derived.Test.YtohmjbgcmccplaaTy
import Derived.Test.YtohmjbgcmccplaaAa3
namespace Go.Proofs.Ytohmjbgcmccplaa
open Go Go.Ab
set_option maxRecDepth 100000
set_option linter.unusedSimpArgs false
set_option linter.unusedVariables false

theorem mixed : Try.prog.follows .mixedOrders = true := by kernel_rfl

theorem within_fn (b : List Int) (at_ n : Int) (hb : b.length ≤ 140737488351232) :
    AFun Try.prog 22 [bytesA b, i64 at_, i64 n] (boolA (decide (0 ≤ at_ ∧ 0 ≤ n ∧ at_ + n ≤ b.length))) := by
  refine acalls_body Try.func22 rfl Try.ntmps22 (by simp) ?_
  rw [Try.results22]
  repeat' ((first
    | refine cs_seq ?_
    | refine cs_reg (by rfl) (fun K Kp hK hKp => ?_)
    | refine cs_drw mixed (by rfl) (by kernel_rfl) (fun K hK => ?_)
    | (refine hK _ _ ?_; try clear hKp; try clear hK; try clear Kp; try clear K)
    | refine cs_cond ?_
    | refine cs_ret (ret_fn ?_)
    | refine cs_scope ?_
    | refine cs_label ?_
    | refine cs_block ?_
    | refine cs_skip ?_
    | refine cs_exit ?_
    | ((first | refine grdO_dec (fun hp => ?_) (fun hp => ?_) | refine grdO_nd (fun hp => ?_) (fun hp => ?_) | refine grdO_nb (fun hp => ?_) (fun hp => ?_) | refine grdO_b (fun hp => ?_) (fun hp => ?_) | refine grdP_dec (fun hp => ?_) (fun hp => ?_) | refine grdP_nd (fun hp => ?_) (fun hp => ?_) | refine grdP_nb (fun hp => ?_) (fun hp => ?_) | refine grdP_b (fun hp => ?_) (fun hp => ?_) | refine condK_d (fun hp => ?_) (fun hp => ?_) | refine condK_nd (fun hp => ?_) (fun hp => ?_) | refine condK_nb (fun hp => ?_) (fun hp => ?_) | refine condK_b (fun hp => ?_) (fun hp => ?_)) <;> first | (exfalso; omega; done) | skip)
    | (with_reducible refine And.intro ?_ ?_; focus (first | omega | (constructor <;> omega) | (have hbits : IntKind.i64.bits = 64 := rfl; omega) | (simp []; done) | (simp []; omega)))) <;> try simp (disch := omega) only [push_cast, ↓omv, ↓oas, ↓opk, ↓oal, ↓obx, ↓obd, ↓obs, ↓old, ↓ost, ↓onc, ↓obo, ↓ouo, ↓ocv, ↓omf, ↓oms, ↓osl, ↓ofa, ↓ofd, ↓oia, ↓oix, ↓oex, ↓obi, ↓ogd, ↓pmv, ↓pas, ↓ppk, ↓pal, ↓pbx, ↓pbd, ↓pbs, ↓pld, ↓pst, ↓pnc, ↓pbo, ↓puo, ↓pcv, ↓pmf, ↓pms, ↓psl, ↓pfa, ↓pfd, ↓pia, ↓pix, ↓pex, ↓pbi, ↓pgd, ↓aop_build, ↓reduceIte, Nat.reduceEqDiff, Nat.reduceAdd, Nat.reduceMul, Nat.reduceSub, Nat.reduceLT, Nat.reduceLeDiff, reduceCtorEq, Int.reduceToNat])
  all_goals (simp [*]; try omega)

theorem or256 (n c : Int) (h0 : 0 ≤ n) (h1 : n < 36028797018963968) (hc : 0 ≤ c) (hc2 : c < 256) :
    IntKind.i64.wrap ((BitVec.ofInt IntKind.i64.bits (n * 2 ^ 8) ||| BitVec.ofInt IntKind.i64.bits c).toNat : Int) = n * 256 + c := by
  show IntKind.i64.wrap ((BitVec.ofInt 64 (n * 2 ^ 8) ||| BitVec.ofInt 64 c).toNat : Int) = n * 256 + c
  have e : (BitVec.ofInt 64 (n * 2 ^ 8) ||| BitVec.ofInt 64 c).toNat = (n * 256 + c).toNat := by
    obtain ⟨k, rfl⟩ := Int.eq_ofNat_of_zero_le h0
    obtain ⟨j, rfl⟩ := Int.eq_ofNat_of_zero_le hc
    rw [BitVec.toNat_or, BitVec.toNat_ofInt, BitVec.toNat_ofInt]
    have h2 : ((k : Int) * 2 ^ 8 % ((2 ^ 64 : Nat) : Int)).toNat = 2 ^ 8 * k := by
      omega
    have h3 : ((j : Int) % ((2 ^ 64 : Nat) : Int)).toNat = j := by omega
    rw [h2, h3, ← Nat.two_pow_add_eq_or_of_lt (show j < 2 ^ 8 by omega)]
    omega
  rw [e, w_i64 (by omega) (by omega)]
  omega

def numB (l : List Int) : Int := l.foldl (fun n c => n * 256 + c) 0
theorem numB_snoc (l : List Int) (x : Int) : numB (l ++ [x]) = numB l * 256 + x := by simp [numB]
def Bytes (b : List Int) : Prop := ∀ x ∈ b, 0 ≤ x ∧ x < 256
theorem Bytes.take {b : List Int} (h : Bytes b) (k : Nat) : Bytes (b.take k) := fun x hx => h x (List.mem_of_mem_take hx)
theorem Bytes.drop {b : List Int} (h : Bytes b) (k : Nat) : Bytes (b.drop k) := fun x hx => h x (List.mem_of_mem_drop hx)
theorem Bytes.getD {b : List Int} (h : Bytes b) (k : Nat) : 0 ≤ b.getD k 0 ∧ b.getD k 0 < 256 := by
  by_cases e : k < b.length
  · simp only [List.getD_eq_getElem?_getD, List.getElem?_eq_getElem e, Option.getD_some]
    exact h _ (List.getElem_mem e)
  · simp [e]
theorem take_snoc (b : List Int) (k : Nat) (h : k < b.length) : b.take (k + 1) = b.take k ++ [b.getD k 0] := by
  rw [List.take_succ_eq_append_getElem h]
  simp [h]
theorem numB_take (b : List Int) (k : Nat) (h : k < b.length) : numB (b.take (k + 1)) = numB (b.take k) * 256 + b.getD k 0 := by
  rw [take_snoc b k h, numB_snoc]
theorem numB_bound : ∀ (n : Nat) (b : List Int), Bytes b → b.length = n → 0 ≤ numB b ∧ numB b < 256 ^ n := by
  intro n
  induction n with
  | zero => intro b _ hl; rw [List.eq_nil_of_length_eq_zero hl]; simp [numB]
  | succ n ih =>
    intro b hb hl
    have h1 := numB_take b n (by omega)
    rw [List.take_of_length_le (by omega)] at h1
    have h2 := ih (b.take n) (hb.take n) (by simp; omega)
    have h3 := hb.getD n
    rw [h1, Int.pow_succ]
    omega
theorem numB_small {b : List Int} (hb : Bytes b) (hl : b.length ≤ 6) : 0 ≤ numB b ∧ numB b < 281474976710656 := by
  have := numB_bound _ b hb rfl
  have h7 : (256 : Int) ^ b.length ≤ 256 ^ 6 := by
    have : (256 : Nat) ^ b.length ≤ 256 ^ 6 := Nat.pow_le_pow_right (by omega) hl
    exact_mod_cast this
  omega

theorem number_fn (b : List Int) (hl : b.length ≤ 6) (hb : Bytes b) : AFun Try.prog 46 [bytesA b] (i64 (numB b)) := by
  refine acalls_body Try.func46 rfl Try.ntmps46 (by simp) ?_
  rw [Try.results46]
  repeat' ((first
    | refine cs_seq ?_
    | refine cs_reg (by rfl) (fun K Kp hK hKp => ?_)
    | refine cs_drw mixed (by rfl) (by kernel_rfl) (fun K hK => ?_)
    | (refine hK _ _ ?_; try clear hKp; try clear hK; try clear Kp; try clear K)
    | refine cs_cond ?_
    | refine cs_ret (ret_fn ?_)
    | refine cs_scope ?_
    | refine cs_label ?_
    | refine cs_block ?_
    | refine cs_skip ?_
    | refine cs_exit ?_
    | ((first | refine grdO_dec (fun hp => ?_) (fun hp => ?_) | refine grdO_nd (fun hp => ?_) (fun hp => ?_) | refine grdO_nb (fun hp => ?_) (fun hp => ?_) | refine grdO_b (fun hp => ?_) (fun hp => ?_) | refine grdP_dec (fun hp => ?_) (fun hp => ?_) | refine grdP_nd (fun hp => ?_) (fun hp => ?_) | refine grdP_nb (fun hp => ?_) (fun hp => ?_) | refine grdP_b (fun hp => ?_) (fun hp => ?_) | refine condK_d (fun hp => ?_) (fun hp => ?_) | refine condK_nd (fun hp => ?_) (fun hp => ?_) | refine condK_nb (fun hp => ?_) (fun hp => ?_) | refine condK_b (fun hp => ?_) (fun hp => ?_)) <;> first | (exfalso; omega; done) | skip)
    | (with_reducible refine And.intro ?_ ?_; focus (first | omega | (constructor <;> omega) | (have hbits : IntKind.i64.bits = 64 := rfl; omega) | (simp []; done) | (simp []; omega)))) <;> try simp (disch := omega) only [push_cast, ↓omv, ↓oas, ↓opk, ↓oal, ↓obx, ↓obd, ↓obs, ↓old, ↓ost, ↓onc, ↓obo, ↓ouo, ↓ocv, ↓omf, ↓oms, ↓osl, ↓ofa, ↓ofd, ↓oia, ↓oix, ↓oex, ↓obi, ↓ogd, ↓pmv, ↓pas, ↓ppk, ↓pal, ↓pbx, ↓pbd, ↓pbs, ↓pld, ↓pst, ↓pnc, ↓pbo, ↓puo, ↓pcv, ↓pmf, ↓pms, ↓psl, ↓pfa, ↓pfd, ↓pia, ↓pix, ↓pex, ↓pbi, ↓pgd, ↓aop_build, ↓reduceIte, Nat.reduceEqDiff, Nat.reduceAdd, Nat.reduceMul, Nat.reduceSub, Nat.reduceLT, Nat.reduceLeDiff, reduceCtorEq, Int.reduceToNat])
  refine cs_lp (ι := Nat) (fun k => [(3, i64 (numB (b.take k))), (6, bytesA b), (7, i64 b.length), (8, i64 k)]) (fun _ => []) 0 (fun k => k ≤ b.length) (fun k => b.length - k) 0 (by omega) ⟨fun i => i, .id (by omega), ?_, trivial⟩ ?_
  · try simp (disch := omega) only [push_cast, ↓omv, ↓oas, ↓opk, ↓oal, ↓obx, ↓obd, ↓obs, ↓old, ↓ost, ↓onc, ↓obo, ↓ouo, ↓ocv, ↓omf, ↓oms, ↓osl, ↓ofa, ↓ofd, ↓oia, ↓oix, ↓oex, ↓obi, ↓ogd, ↓pmv, ↓pas, ↓ppk, ↓pal, ↓pbx, ↓pbd, ↓pbs, ↓pld, ↓pst, ↓pnc, ↓pbo, ↓puo, ↓pcv, ↓pmf, ↓pms, ↓psl, ↓pfa, ↓pfd, ↓pia, ↓pix, ↓pex, ↓pbi, ↓pgd, ↓aop_build, ↓reduceIte, Nat.reduceEqDiff, Nat.reduceAdd, Nat.reduceMul, Nat.reduceSub, Nat.reduceLT, Nat.reduceLeDiff, reduceCtorEq, Int.reduceToNat, numB, List.take_zero, List.foldl_nil]
  intro k hk
  have hk2 := numB_small (hb.take k) (by simp; omega)
  have hk3 := hb.getD k
  repeat' ((first
    | refine cs_seq ?_
    | refine cs_reg (by rfl) (fun K Kp hK hKp => ?_)
    | refine cs_drw mixed (by rfl) (by kernel_rfl) (fun K hK => ?_)
    | (refine hK _ _ ?_; try clear hKp; try clear hK; try clear Kp; try clear K)
    | refine cs_cond ?_
    | refine cs_ret (ret_fn ?_)
    | refine cs_scope ?_
    | refine cs_label ?_
    | refine cs_block ?_
    | refine cs_skip ?_
    | refine cs_exit ?_
    | ((first | refine grdO_dec (fun hp => ?_) (fun hp => ?_) | refine grdO_nd (fun hp => ?_) (fun hp => ?_) | refine grdO_nb (fun hp => ?_) (fun hp => ?_) | refine grdO_b (fun hp => ?_) (fun hp => ?_) | refine grdP_dec (fun hp => ?_) (fun hp => ?_) | refine grdP_nd (fun hp => ?_) (fun hp => ?_) | refine grdP_nb (fun hp => ?_) (fun hp => ?_) | refine grdP_b (fun hp => ?_) (fun hp => ?_) | refine condK_d (fun hp => ?_) (fun hp => ?_) | refine condK_nd (fun hp => ?_) (fun hp => ?_) | refine condK_nb (fun hp => ?_) (fun hp => ?_) | refine condK_b (fun hp => ?_) (fun hp => ?_)) <;> first | (exfalso; omega; done) | skip)
    | (with_reducible refine And.intro ?_ ?_; focus (first | omega | (constructor <;> omega) | (have hbits : IntKind.i64.bits = 64 := rfl; omega) | (simp [byteR_at]; done) | (simp [byteR_at]; omega)))) <;> try simp (disch := omega) only [push_cast, ↓omv, ↓oas, ↓opk, ↓oal, ↓obx, ↓obd, ↓obs, ↓old, ↓ost, ↓onc, ↓obo, ↓ouo, ↓ocv, ↓omf, ↓oms, ↓osl, ↓ofa, ↓ofd, ↓oia, ↓oix, ↓oex, ↓obi, ↓ogd, ↓pmv, ↓pas, ↓ppk, ↓pal, ↓pbx, ↓pbd, ↓pbs, ↓pld, ↓pst, ↓pnc, ↓pbo, ↓puo, ↓pcv, ↓pmf, ↓pms, ↓psl, ↓pfa, ↓pfd, ↓pia, ↓pix, ↓pex, ↓pbi, ↓pgd, ↓aop_build, ↓reduceIte, Nat.reduceEqDiff, Nat.reduceAdd, Nat.reduceMul, Nat.reduceSub, Nat.reduceLT, Nat.reduceLeDiff, reduceCtorEq, Int.reduceToNat, byteR_at])
  · refine Again.intro (k + 1) (by omega) (by omega) (fun i => i) (.id (by omega)) ?_ trivial
    try simp (disch := omega) only [push_cast, ↓omv, ↓oas, ↓opk, ↓oal, ↓obx, ↓obd, ↓obs, ↓old, ↓ost, ↓onc, ↓obo, ↓ouo, ↓ocv, ↓omf, ↓oms, ↓osl, ↓ofa, ↓ofd, ↓oia, ↓oix, ↓oex, ↓obi, ↓ogd, ↓pmv, ↓pas, ↓ppk, ↓pal, ↓pbx, ↓pbd, ↓pbs, ↓pld, ↓pst, ↓pnc, ↓pbo, ↓puo, ↓pcv, ↓pmf, ↓pms, ↓psl, ↓pfa, ↓pfd, ↓pia, ↓pix, ↓pex, ↓pbi, ↓pgd, ↓aop_build, ↓reduceIte, Nat.reduceEqDiff, Nat.reduceAdd, Nat.reduceMul, Nat.reduceSub, Nat.reduceLT, Nat.reduceLeDiff, reduceCtorEq, Int.reduceToNat]
    rw [or256 _ _ (by omega) (by omega) (by omega) (by omega), numB_take b k (by omega)]
    simp
  · rw [List.take_of_length_le (by omega)]

/-- A number of n bytes. -/
def rd (b : List Int) (at_ n : Int) : Option Int := if 0 ≤ at_ ∧ 0 ≤ n ∧ at_ + n ≤ b.length then some (numB ((b.drop at_.toNat).take n.toNat)) else none

theorem read_fn (b : List Int) (hb : Bytes b) (hl : b.length ≤ 140737488351232) (at_ n : Int) (hn : n ≤ 6) (ha : -1000000000000 ≤ at_) (ha2 : at_ ≤ 281474976710656) :
    AFun Try.prog 37 [bytesA b, i64 at_, i64 n] (.tup [i64 ((rd b at_ n).getD 0), boolA (rd b at_ n).isSome]) := by
  refine acalls_body Try.func37 rfl Try.ntmps37 (by simp) ?_
  rw [Try.results37]
  repeat' ((first
    | refine cs_seq ?_
    | refine cs_reg (by rfl) (fun K Kp hK hKp => ?_)
    | refine cs_drw mixed (by rfl) (by kernel_rfl) (fun K hK => ?_)
    | (refine hK _ _ ?_; try clear hKp; try clear hK; try clear Kp; try clear K)
    | refine cs_cond ?_
    | refine cs_ret (ret_fn ?_)
    | refine cs_scope ?_
    | refine cs_label ?_
    | refine cs_block ?_
    | refine cs_skip ?_
    | refine cs_exit ?_
    | ((first | refine grdO_dec (fun hp => ?_) (fun hp => ?_) | refine grdO_nd (fun hp => ?_) (fun hp => ?_) | refine grdO_nb (fun hp => ?_) (fun hp => ?_) | refine grdO_b (fun hp => ?_) (fun hp => ?_) | refine grdP_dec (fun hp => ?_) (fun hp => ?_) | refine grdP_nd (fun hp => ?_) (fun hp => ?_) | refine grdP_nb (fun hp => ?_) (fun hp => ?_) | refine grdP_b (fun hp => ?_) (fun hp => ?_) | refine condK_d (fun hp => ?_) (fun hp => ?_) | refine condK_nd (fun hp => ?_) (fun hp => ?_) | refine condK_nb (fun hp => ?_) (fun hp => ?_) | refine condK_b (fun hp => ?_) (fun hp => ?_)) <;> first | (exfalso; omega; done) | skip)
    | (refine regO_call rfl ?_; refine CallK.fn (within_fn b at_ n hl) (by simp only [push_cast]) rfl (by simp only [push_cast, and_self]) (by simp only [push_cast, and_self]) (by simp only [push_cast, ↓reduceIte, Nat.reduceEqDiff, Nat.reduceAdd]) ?_)
    | (refine regO_call rfl ?_; refine CallK.fn (number_fn ((b.drop at_.toNat).take ((at_ + n).toNat - at_.toNat)) (by simp; omega) ((hb.drop _).take _)) (by simp only [push_cast]) rfl (by simp only [push_cast, and_self]) (by simp only [push_cast, and_self]) (by simp only [push_cast, ↓reduceIte, Nat.reduceEqDiff, Nat.reduceAdd]) ?_)
    | (with_reducible refine And.intro ?_ ?_; focus (first | omega | (constructor <;> omega) | (have hbits : IntKind.i64.bits = 64 := rfl; omega) | (simp []; done) | (simp []; omega)))) <;> try simp (disch := omega) only [push_cast, ↓omv, ↓oas, ↓opk, ↓oal, ↓obx, ↓obd, ↓obs, ↓old, ↓ost, ↓onc, ↓obo, ↓ouo, ↓ocv, ↓omf, ↓oms, ↓osl, ↓ofa, ↓ofd, ↓oia, ↓oix, ↓oex, ↓obi, ↓ogd, ↓pmv, ↓pas, ↓ppk, ↓pal, ↓pbx, ↓pbd, ↓pbs, ↓pld, ↓pst, ↓pnc, ↓pbo, ↓puo, ↓pcv, ↓pmf, ↓pms, ↓psl, ↓pfa, ↓pfd, ↓pia, ↓pix, ↓pex, ↓pbi, ↓pgd, ↓aop_build, ↓reduceIte, Nat.reduceEqDiff, Nat.reduceAdd, Nat.reduceMul, Nat.reduceSub, Nat.reduceLT, Nat.reduceLeDiff, reduceCtorEq, Int.reduceToNat])
  · simp [rd, hp]
  · rw [show (at_ + n).toNat - at_.toNat = n.toNat by omega]
    simp [rd, hp]

theorem u16_fn (b : List Int) (hb : Bytes b) (hl : b.length ≤ 140737488351232) (at_ : Int) (ha : -1000000000000 ≤ at_) (ha2 : at_ ≤ 281474976710656) :
    AFun Try.prog 34 [bytesA b, i64 at_] (.tup [i64 ((rd b at_ 2).getD 0), boolA (rd b at_ 2).isSome]) := by
  refine acalls_body Try.func34 rfl Try.ntmps34 (by simp) ?_
  rw [Try.results34]
  repeat' ((first
    | refine cs_seq ?_
    | refine cs_reg (by rfl) (fun K Kp hK hKp => ?_)
    | refine cs_drw mixed (by rfl) (by kernel_rfl) (fun K hK => ?_)
    | (refine hK _ _ ?_; try clear hKp; try clear hK; try clear Kp; try clear K)
    | refine cs_cond ?_
    | refine cs_ret (ret_fn ?_)
    | refine cs_scope ?_
    | refine cs_label ?_
    | refine cs_block ?_
    | refine cs_skip ?_
    | refine cs_exit ?_
    | ((first | refine grdO_dec (fun hp => ?_) (fun hp => ?_) | refine grdO_nd (fun hp => ?_) (fun hp => ?_) | refine grdO_nb (fun hp => ?_) (fun hp => ?_) | refine grdO_b (fun hp => ?_) (fun hp => ?_) | refine grdP_dec (fun hp => ?_) (fun hp => ?_) | refine grdP_nd (fun hp => ?_) (fun hp => ?_) | refine grdP_nb (fun hp => ?_) (fun hp => ?_) | refine grdP_b (fun hp => ?_) (fun hp => ?_) | refine condK_d (fun hp => ?_) (fun hp => ?_) | refine condK_nd (fun hp => ?_) (fun hp => ?_) | refine condK_nb (fun hp => ?_) (fun hp => ?_) | refine condK_b (fun hp => ?_) (fun hp => ?_)) <;> first | (exfalso; omega; done) | skip)
    | (refine regO_call rfl ?_; refine CallK.fn (read_fn b hb hl at_ 2 (by omega) ha ha2) (by simp only [push_cast]) rfl (by simp only [push_cast, and_self]) (by simp only [push_cast, and_self]) (by simp only [push_cast, ↓reduceIte, Nat.reduceEqDiff, Nat.reduceAdd]) ?_)
    | (with_reducible refine And.intro ?_ ?_; focus (first | omega | (constructor <;> omega) | (have hbits : IntKind.i64.bits = 64 := rfl; omega) | (simp []; done) | (simp []; omega)))) <;> try simp (disch := omega) only [push_cast, ↓omv, ↓oas, ↓opk, ↓oal, ↓obx, ↓obd, ↓obs, ↓old, ↓ost, ↓onc, ↓obo, ↓ouo, ↓ocv, ↓omf, ↓oms, ↓osl, ↓ofa, ↓ofd, ↓oia, ↓oix, ↓oex, ↓obi, ↓ogd, ↓pmv, ↓pas, ↓ppk, ↓pal, ↓pbx, ↓pbd, ↓pbs, ↓pld, ↓pst, ↓pnc, ↓pbo, ↓puo, ↓pcv, ↓pmf, ↓pms, ↓psl, ↓pfa, ↓pfd, ↓pia, ↓pix, ↓pex, ↓pbi, ↓pgd, ↓aop_build, ↓reduceIte, Nat.reduceEqDiff, Nat.reduceAdd, Nat.reduceMul, Nat.reduceSub, Nat.reduceLT, Nat.reduceLeDiff, reduceCtorEq, Int.reduceToNat])

theorem u32_fn (b : List Int) (hb : Bytes b) (hl : b.length ≤ 140737488351232) (at_ : Int) (ha : -1000000000000 ≤ at_) (ha2 : at_ ≤ 281474976710656) :
    AFun Try.prog 21 [bytesA b, i64 at_] (.tup [i64 ((rd b at_ 4).getD 0), boolA (rd b at_ 4).isSome]) := by
  refine acalls_body Try.func21 rfl Try.ntmps21 (by simp) ?_
  rw [Try.results21]
  repeat' ((first
    | refine cs_seq ?_
    | refine cs_reg (by rfl) (fun K Kp hK hKp => ?_)
    | refine cs_drw mixed (by rfl) (by kernel_rfl) (fun K hK => ?_)
    | (refine hK _ _ ?_; try clear hKp; try clear hK; try clear Kp; try clear K)
    | refine cs_cond ?_
    | refine cs_ret (ret_fn ?_)
    | refine cs_scope ?_
    | refine cs_label ?_
    | refine cs_block ?_
    | refine cs_skip ?_
    | refine cs_exit ?_
    | ((first | refine grdO_dec (fun hp => ?_) (fun hp => ?_) | refine grdO_nd (fun hp => ?_) (fun hp => ?_) | refine grdO_nb (fun hp => ?_) (fun hp => ?_) | refine grdO_b (fun hp => ?_) (fun hp => ?_) | refine grdP_dec (fun hp => ?_) (fun hp => ?_) | refine grdP_nd (fun hp => ?_) (fun hp => ?_) | refine grdP_nb (fun hp => ?_) (fun hp => ?_) | refine grdP_b (fun hp => ?_) (fun hp => ?_) | refine condK_d (fun hp => ?_) (fun hp => ?_) | refine condK_nd (fun hp => ?_) (fun hp => ?_) | refine condK_nb (fun hp => ?_) (fun hp => ?_) | refine condK_b (fun hp => ?_) (fun hp => ?_)) <;> first | (exfalso; omega; done) | skip)
    | (refine regO_call rfl ?_; refine CallK.fn (read_fn b hb hl at_ 4 (by omega) ha ha2) (by simp only [push_cast]) rfl (by simp only [push_cast, and_self]) (by simp only [push_cast, and_self]) (by simp only [push_cast, ↓reduceIte, Nat.reduceEqDiff, Nat.reduceAdd]) ?_)
    | (with_reducible refine And.intro ?_ ?_; focus (first | omega | (constructor <;> omega) | (have hbits : IntKind.i64.bits = 64 := rfl; omega) | (simp []; done) | (simp []; omega)))) <;> try simp (disch := omega) only [push_cast, ↓omv, ↓oas, ↓opk, ↓oal, ↓obx, ↓obd, ↓obs, ↓old, ↓ost, ↓onc, ↓obo, ↓ouo, ↓ocv, ↓omf, ↓oms, ↓osl, ↓ofa, ↓ofd, ↓oia, ↓oix, ↓oex, ↓obi, ↓ogd, ↓pmv, ↓pas, ↓ppk, ↓pal, ↓pbx, ↓pbd, ↓pbs, ↓pld, ↓pst, ↓pnc, ↓pbo, ↓puo, ↓pcv, ↓pmf, ↓pms, ↓psl, ↓pfa, ↓pfd, ↓pia, ↓pix, ↓pex, ↓pbi, ↓pgd, ↓aop_build, ↓reduceIte, Nat.reduceEqDiff, Nat.reduceAdd, Nat.reduceMul, Nat.reduceSub, Nat.reduceLT, Nat.reduceLeDiff, reduceCtorEq, Int.reduceToNat])

theorem rd_range {b : List Int} (hb : Bytes b) {at_ n x : Int} (hn : n ≤ 6) (h : rd b at_ n = some x) : 0 ≤ x ∧ x < 256 ^ n.toNat := by
  unfold rd at h
  split at h
  · rename_i hc
    injection h with h
    have := numB_bound _ ((b.drop at_.toNat).take n.toNat) ((hb.drop _).take _) rfl
    rw [h, List.length_take, List.length_drop, show min n.toNat (b.length - at_.toNat) = n.toNat by omega] at this
    exact this
  · cases h
theorem rd2 {b : List Int} (hb : Bytes b) (at_ : Int) : 0 ≤ (rd b at_ 2).getD 0 ∧ (rd b at_ 2).getD 0 < 65536 := by
  cases h : rd b at_ 2 with
  | none => simp
  | some x => have := rd_range hb (by omega) h; simpa using this
theorem rd4 {b : List Int} (hb : Bytes b) (at_ : Int) : 0 ≤ (rd b at_ 4).getD 0 ∧ (rd b at_ 4).getD 0 < 4294967296 := by
  cases h : rd b at_ 4 with
  | none => simp
  | some x => have := rd_range hb (by omega) h; simpa using this
end Go.Proofs.Ytohmjbgcmccplaa
