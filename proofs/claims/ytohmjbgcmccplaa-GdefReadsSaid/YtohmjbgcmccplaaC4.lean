/- What the code tables' readers tell. No condition. -/
import Derived.Test.YtohmjbgcmccplaaC3
import Derived.Test.YtohmjbgcmccplaaAa3
namespace Go.Proofs.Ytohmjbgcmccplaa
open Go Go.Ab
set_option maxRecDepth 100000
set_option linter.unusedSimpArgs false
set_option linter.unusedVariables false

/-! ### A segment's codes -/

/-- A code's glyph by its segment; none: a number is not there. -/
def segGl (b : List Int) (from_ delta offset place c : Int) : Option Int :=
  if offset = 0 then some (Int.tmod (c + delta) 65536)
  else if (rd b (place + offset + 2 * (c - from_)) 2).isSome = true then
    if (rd b (place + offset + 2 * (c - from_)) 2).getD 0 = 0 then some 0 else some (Int.tmod ((rd b (place + offset + 2 * (c - from_)) 2).getD 0 + delta) 65536)
  else none

/-- The codes from c on, n of them. -/
def segS (b : List Int) (glyphs from_ delta offset place : Int) : Nat → Int → List Grp → Option (List Grp)
  | 0, _, l => some l
  | n + 1, c, l => match segGl b from_ delta offset place c with
    | none => none
    | some g => segS b glyphs from_ delta offset place n (c + 1) (if g = 0 then l else addS glyphs l c c g)

theorem addok_tm {glyphs c x : Int} (hg : 0 ≤ glyphs ∧ glyphs ≤ 65536) (hc : 0 ≤ c ∧ c ≤ 1114111) (hx : 0 ≤ x) : AddOK glyphs c c (Int.tmod x 65536) := by
  rw [Int.tmod_eq_emod_of_nonneg hx]
  exact ⟨hg, ⟨hc.1, by omega⟩, hc, by omega⟩

/-- What a reader leaves of its list: a new one, or nothing that is told of. -/
def leaves (glyphs : Int) : Option (List Grp) → List (Option Ck)
  | some l => [some (.box 68 [.ref 2 l.length, i64 glyphs]), none, some (.arr 35 3 (groupR l))]
  | none => [none, none, none]
theorem leaves_some (glyphs : Int) (l : List Grp) : leaves glyphs (some l) = [some (.box 68 [.ref 2 l.length, i64 glyphs]), none, some (.arr 35 3 (groupR l))] := rfl
theorem leaves_none (glyphs : Int) : leaves glyphs none = [none, none, none] := rfl

attribute [push_cast] leaves_some leaves_none

structure SegOK (from_ to delta offset place : Int) : Prop where
  f : 0 ≤ from_ ∧ from_ ≤ to
  t : to ≤ 65535
  d : 0 ≤ delta ∧ delta ≤ 65535
  o : 0 ≤ offset ∧ offset ≤ 65535
  p : -1000000 ≤ place ∧ place ≤ 1000000000000

theorem segS_step {b : List Int} {glyphs from_ to delta offset place : Int} {k : Nat} {lk : List Grp} (h : from_ + k ≤ to) :
    segS b glyphs from_ delta offset place (to - from_ + 1 - (k : Int)).toNat (from_ + k) lk = match segGl b from_ delta offset place (from_ + k) with
      | none => none
      | some g => segS b glyphs from_ delta offset place (to - from_ + 1 - ((k + 1 : Nat) : Int)).toNat (from_ + ((k + 1 : Nat) : Int)) (if g = 0 then lk else addS glyphs lk (from_ + k) (from_ + k) g) := by
  rw [show (to - from_ + 1 - (k : Int)).toNat = (to - from_ + 1 - ((k + 1 : Nat) : Int)).toNat + 1 by omega, segS, show from_ + (k : Int) + 1 = from_ + ((k + 1 : Nat) : Int) by omega]

theorem narrow_fn (b : List Int) (hb : Bytes b) (hl : b.length ≤ 140737488351232) (glyphs from_ to delta offset place : Int) (l : List Grp) (hg : 0 ≤ glyphs ∧ glyphs ≤ 65536) (hll : l.length ≤ 100000000) (hG : ∀ p ∈ l, GOK p) (hs : SegOK from_ to delta offset place)
    (res : Option (List Grp)) (hres : segS b glyphs from_ delta offset place (to - from_ + 1).toNat from_ l = res) :
    AMem Try.prog 45 (listCk glyphs l) [.ptr 0 0, bytesA b, .agg [i64 from_, i64 to, i64 delta, i64 offset, i64 place]] (boolA res.isSome) (leaves glyphs res) := by
  refine amem_body Try.func45 rfl Try.ntmps45 (by simp) ?_
  rw [Try.results45]
  obtain ⟨⟨f1, f2⟩, t1, ⟨d1, d2⟩, ⟨o1, o2⟩, ⟨p1, p2⟩⟩ := hs
  repeat' ((first
    | refine cs_seq ?_
    | refine cs_reg (by rfl) (fun K Kp hK hKp => ?_)
    | refine cs_drw mixed (by rfl) (by kernel_rfl) (fun K hK => ?_)
    | (refine hK _ _ ?_; try clear hKp; try clear hK; try clear Kp; try clear K)
    | refine cs_cond ?_
    | refine cs_ret (ret_fn ?_)
    | refine cs_scope ?_
    | refine cs_label ?_
    | refine cs_block ?_
    | refine cs_skip ?_
    | refine cs_exit ?_
    | ((first | refine grdO_dec (fun hp => ?_) (fun hp => ?_) | refine grdO_nd (fun hp => ?_) (fun hp => ?_) | refine grdO_nb (fun hp => ?_) (fun hp => ?_) | refine grdO_b (fun hp => ?_) (fun hp => ?_) | refine grdP_dec (fun hp => ?_) (fun hp => ?_) | refine grdP_nd (fun hp => ?_) (fun hp => ?_) | refine grdP_nb (fun hp => ?_) (fun hp => ?_) | refine grdP_b (fun hp => ?_) (fun hp => ?_) | refine condK_d (fun hp => ?_) (fun hp => ?_) | refine condK_nd (fun hp => ?_) (fun hp => ?_) | refine condK_nb (fun hp => ?_) (fun hp => ?_) | refine condK_b (fun hp => ?_) (fun hp => ?_)) <;> first | (exfalso; omega; done) | skip)
    | (with_reducible refine And.intro ?_ ?_; focus (first | omega | (constructor <;> omega) | (have hbits : IntKind.i64.bits = 64 := rfl; omega) | (simp []; done) | (simp []; omega)))) <;> try simp (disch := omega) only [push_cast, ↓omv, ↓oas, ↓opk, ↓oal, ↓obx, ↓obd, ↓obs, ↓old, ↓ost, ↓onc, ↓obo, ↓ouo, ↓ocv, ↓omf, ↓oms, ↓osl, ↓ofa, ↓ofd, ↓oia, ↓oix, ↓oex, ↓obi, ↓ogd, ↓pmv, ↓pas, ↓ppk, ↓pal, ↓pbx, ↓pbd, ↓pbs, ↓pld, ↓pst, ↓pnc, ↓pbo, ↓puo, ↓pcv, ↓pmf, ↓pms, ↓psl, ↓pfa, ↓pfd, ↓pia, ↓pix, ↓pex, ↓pbi, ↓pgd, ↓aop_build, ↓reduceIte, Nat.reduceEqDiff, Nat.reduceAdd, Nat.reduceMul, Nat.reduceSub, Nat.reduceLT, Nat.reduceLeDiff, reduceCtorEq, Int.reduceToNat])
  refine cs_lp (ι := Nat × List Grp) (fun q => [(0, .ptr 0 0), (1, bytesA b), (5, .ptr 3 0), (7, i64 (from_ + q.1))]) (fun q => [(0, .box 68 [.ref 2 q.2.length, i64 glyphs]), (2, .arr 35 3 (groupR q.2)), (3, .box 78 [i64 from_, i64 to, i64 delta, i64 offset, i64 place])]) 4
    (fun q => (q.1 : Int) ≤ to - from_ + 1 ∧ q.2.length ≤ l.length + q.1 ∧ (∀ p ∈ q.2, GOK p) ∧ segS b glyphs from_ delta offset place (to - from_ + 1 - q.1).toNat (from_ + q.1) q.2 = res) (fun q => (to - from_ + 1 - q.1).toNat) (0, l)
    ⟨by simp; omega, by simp, hG, by simpa using hres⟩ ⟨ofL [(2, 1), (3, 2)], .ofL, ?_, ?_⟩ ?_
  · try simp (disch := omega) only [push_cast, ↓omv, ↓oas, ↓opk, ↓oal, ↓obx, ↓obd, ↓obs, ↓old, ↓ost, ↓onc, ↓obo, ↓ouo, ↓ocv, ↓omf, ↓oms, ↓osl, ↓ofa, ↓ofd, ↓oia, ↓oix, ↓oex, ↓obi, ↓ogd, ↓pmv, ↓pas, ↓ppk, ↓pal, ↓pbx, ↓pbd, ↓pbs, ↓pld, ↓pst, ↓pnc, ↓pbo, ↓puo, ↓pcv, ↓pmf, ↓pms, ↓psl, ↓pfa, ↓pfd, ↓pia, ↓pix, ↓pex, ↓pbi, ↓pgd, ↓aop_build, ↓reduceIte, Nat.reduceEqDiff, Nat.reduceAdd, Nat.reduceMul, Nat.reduceSub, Nat.reduceLT, Nat.reduceLeDiff, reduceCtorEq, Int.reduceToNat, Int.natCast_zero, Int.add_zero]
  · try simp (disch := omega) only [push_cast, ↓omv, ↓oas, ↓opk, ↓oal, ↓obx, ↓obd, ↓obs, ↓old, ↓ost, ↓onc, ↓obo, ↓ouo, ↓ocv, ↓omf, ↓oms, ↓osl, ↓ofa, ↓ofd, ↓oia, ↓oix, ↓oex, ↓obi, ↓ogd, ↓pmv, ↓pas, ↓ppk, ↓pal, ↓pbx, ↓pbd, ↓pbs, ↓pld, ↓pst, ↓pnc, ↓pbo, ↓puo, ↓pcv, ↓pmf, ↓pms, ↓psl, ↓pfa, ↓pfd, ↓pia, ↓pix, ↓pex, ↓pbi, ↓pgd, ↓aop_build, ↓reduceIte, Nat.reduceEqDiff, Nat.reduceAdd, Nat.reduceMul, Nat.reduceSub, Nat.reduceLT, Nat.reduceLeDiff, reduceCtorEq, Int.reduceToNat]
  rintro ⟨k, lk⟩ ⟨hk1, hk2, hk3, hk4⟩
  simp only [] at hk1 hk2 hk3 hk4 ⊢
  have hr := rd2 hb (place + offset + 2 * (from_ + k - from_))
  repeat' ((first
    | refine cs_seq ?_
    | refine cs_reg (by rfl) (fun K Kp hK hKp => ?_)
    | refine cs_drw mixed (by rfl) (by kernel_rfl) (fun K hK => ?_)
    | (refine hK _ _ ?_; try clear hKp; try clear hK; try clear Kp; try clear K)
    | refine cs_cond ?_
    | refine cs_ret (ret_fn ?_)
    | refine cs_scope ?_
    | refine cs_label ?_
    | refine cs_block ?_
    | refine cs_skip ?_
    | refine cs_exit ?_
    | ((first | refine grdO_dec (fun hp => ?_) (fun hp => ?_) | refine grdO_nd (fun hp => ?_) (fun hp => ?_) | refine grdO_nb (fun hp => ?_) (fun hp => ?_) | refine grdO_b (fun hp => ?_) (fun hp => ?_) | refine grdP_dec (fun hp => ?_) (fun hp => ?_) | refine grdP_nd (fun hp => ?_) (fun hp => ?_) | refine grdP_nb (fun hp => ?_) (fun hp => ?_) | refine grdP_b (fun hp => ?_) (fun hp => ?_) | refine condK_d (fun hp => ?_) (fun hp => ?_) | refine condK_nd (fun hp => ?_) (fun hp => ?_) | refine condK_nb (fun hp => ?_) (fun hp => ?_) | refine condK_b (fun hp => ?_) (fun hp => ?_)) <;> first | (exfalso; omega; done) | skip)
    | (refine regO_call rfl ?_; refine CallK.fn (u16_fn b hb hl (place + offset + 2 * (from_ + k - from_)) (by omega) (by omega)) (by simp only [push_cast]) rfl (by simp only [push_cast, and_self]) (by simp only [push_cast, and_self]) (by simp only [push_cast, ↓reduceIte, Nat.reduceEqDiff, Nat.reduceAdd]) ?_)
    | (refine regO_call rfl ?_; refine CallK.mem (add_fn glyphs (from_ + k) (from_ + k) (Int.tmod (from_ + k + delta) 65536) lk (by omega) (addok_tm hg (by omega) (by omega)) hk3) [0, 2] ?_ ?_ ?_ ?_ ?_ ?_ ?_ ?_ ?_; (focus (simp only [push_cast]; done)); (focus (simp (disch := omega) only [push_cast, ↓omv, ↓oas, ↓opk, ↓oal, ↓obx, ↓obd, ↓obs, ↓old, ↓ost, ↓onc, ↓obo, ↓ouo, ↓ocv, ↓omf, ↓oms, ↓osl, ↓ofa, ↓ofd, ↓oia, ↓oix, ↓oex, ↓obi, ↓ogd, ↓pmv, ↓pas, ↓ppk, ↓pal, ↓pbx, ↓pbd, ↓pbs, ↓pld, ↓pst, ↓pnc, ↓pbo, ↓puo, ↓pcv, ↓pmf, ↓pms, ↓psl, ↓pfa, ↓pfd, ↓pia, ↓pix, ↓pex, ↓pbi, ↓pgd, ↓aop_build, ↓reduceIte, Nat.reduceEqDiff, Nat.reduceAdd, Nat.reduceMul, Nat.reduceSub, Nat.reduceLT, Nat.reduceLeDiff, reduceCtorEq, Int.reduceToNat]; done)); (focus (simp (disch := omega) only [push_cast, ↓omv, ↓oas, ↓opk, ↓oal, ↓obx, ↓obd, ↓obs, ↓old, ↓ost, ↓onc, ↓obo, ↓ouo, ↓ocv, ↓omf, ↓oms, ↓osl, ↓ofa, ↓ofd, ↓oia, ↓oix, ↓oex, ↓obi, ↓ogd, ↓pmv, ↓pas, ↓ppk, ↓pal, ↓pbx, ↓pbd, ↓pbs, ↓pld, ↓pst, ↓pnc, ↓pbo, ↓puo, ↓pcv, ↓pmf, ↓pms, ↓psl, ↓pfa, ↓pfd, ↓pia, ↓pix, ↓pex, ↓pbi, ↓pgd, ↓aop_build, ↓reduceIte, Nat.reduceEqDiff, Nat.reduceAdd, Nat.reduceMul, Nat.reduceSub, Nat.reduceLT, Nat.reduceLeDiff, reduceCtorEq, Int.reduceToNat]; done)); (focus (simp; done)); (focus (simp (disch := omega) only [push_cast, ↓omv, ↓oas, ↓opk, ↓oal, ↓obx, ↓obd, ↓obs, ↓old, ↓ost, ↓onc, ↓obo, ↓ouo, ↓ocv, ↓omf, ↓oms, ↓osl, ↓ofa, ↓ofd, ↓oia, ↓oix, ↓oex, ↓obi, ↓ogd, ↓pmv, ↓pas, ↓ppk, ↓pal, ↓pbx, ↓pbd, ↓pbs, ↓pld, ↓pst, ↓pnc, ↓pbo, ↓puo, ↓pcv, ↓pmf, ↓pms, ↓psl, ↓pfa, ↓pfd, ↓pia, ↓pix, ↓pex, ↓pbi, ↓pgd, ↓aop_build, ↓reduceIte, Nat.reduceEqDiff, Nat.reduceAdd, Nat.reduceMul, Nat.reduceSub, Nat.reduceLT, Nat.reduceLeDiff, reduceCtorEq, Int.reduceToNat]; done)); (focus (simp (disch := omega) only [push_cast, ↓omv, ↓oas, ↓opk, ↓oal, ↓obx, ↓obd, ↓obs, ↓old, ↓ost, ↓onc, ↓obo, ↓ouo, ↓ocv, ↓omf, ↓oms, ↓osl, ↓ofa, ↓ofd, ↓oia, ↓oix, ↓oex, ↓obi, ↓ogd, ↓pmv, ↓pas, ↓ppk, ↓pal, ↓pbx, ↓pbd, ↓pbs, ↓pld, ↓pst, ↓pnc, ↓pbo, ↓puo, ↓pcv, ↓pmf, ↓pms, ↓psl, ↓pfa, ↓pfd, ↓pia, ↓pix, ↓pex, ↓pbi, ↓pgd, ↓aop_build, ↓reduceIte, Nat.reduceEqDiff, Nat.reduceAdd, Nat.reduceMul, Nat.reduceSub, Nat.reduceLT, Nat.reduceLeDiff, reduceCtorEq, Int.reduceToNat]; done)); (focus (first | (simp; done) | simp (disch := omega) only [push_cast, ↓omv, ↓oas, ↓opk, ↓oal, ↓obx, ↓obd, ↓obs, ↓old, ↓ost, ↓onc, ↓obo, ↓ouo, ↓ocv, ↓omf, ↓oms, ↓osl, ↓ofa, ↓ofd, ↓oia, ↓oix, ↓oex, ↓obi, ↓ogd, ↓pmv, ↓pas, ↓ppk, ↓pal, ↓pbx, ↓pbd, ↓pbs, ↓pld, ↓pst, ↓pnc, ↓pbo, ↓puo, ↓pcv, ↓pmf, ↓pms, ↓psl, ↓pfa, ↓pfd, ↓pia, ↓pix, ↓pex, ↓pbi, ↓pgd, ↓aop_build, ↓reduceIte, Nat.reduceEqDiff, Nat.reduceAdd, Nat.reduceMul, Nat.reduceSub, Nat.reduceLT, Nat.reduceLeDiff, reduceCtorEq, Int.reduceToNat]; done)); (focus (simp (disch := omega) only [push_cast, ↓omv, ↓oas, ↓opk, ↓oal, ↓obx, ↓obd, ↓obs, ↓old, ↓ost, ↓onc, ↓obo, ↓ouo, ↓ocv, ↓omf, ↓oms, ↓osl, ↓ofa, ↓ofd, ↓oia, ↓oix, ↓oex, ↓obi, ↓ogd, ↓pmv, ↓pas, ↓ppk, ↓pal, ↓pbx, ↓pbd, ↓pbs, ↓pld, ↓pst, ↓pnc, ↓pbo, ↓puo, ↓pcv, ↓pmf, ↓pms, ↓psl, ↓pfa, ↓pfd, ↓pia, ↓pix, ↓pex, ↓pbi, ↓pgd, ↓aop_build, ↓reduceIte, Nat.reduceEqDiff, Nat.reduceAdd, Nat.reduceMul, Nat.reduceSub, Nat.reduceLT, Nat.reduceLeDiff, reduceCtorEq, Int.reduceToNat]; done)))
    | (refine regO_call rfl ?_; refine CallK.mem (add_fn glyphs (from_ + k) (from_ + k) (Int.tmod ((rd b (place + offset + 2 * (from_ + k - from_)) 2).getD 0 + delta) 65536) lk (by omega) (addok_tm hg (by omega) (by omega)) hk3) [0, 2] ?_ ?_ ?_ ?_ ?_ ?_ ?_ ?_ ?_; (focus (simp only [push_cast]; done)); (focus (simp (disch := omega) only [push_cast, ↓omv, ↓oas, ↓opk, ↓oal, ↓obx, ↓obd, ↓obs, ↓old, ↓ost, ↓onc, ↓obo, ↓ouo, ↓ocv, ↓omf, ↓oms, ↓osl, ↓ofa, ↓ofd, ↓oia, ↓oix, ↓oex, ↓obi, ↓ogd, ↓pmv, ↓pas, ↓ppk, ↓pal, ↓pbx, ↓pbd, ↓pbs, ↓pld, ↓pst, ↓pnc, ↓pbo, ↓puo, ↓pcv, ↓pmf, ↓pms, ↓psl, ↓pfa, ↓pfd, ↓pia, ↓pix, ↓pex, ↓pbi, ↓pgd, ↓aop_build, ↓reduceIte, Nat.reduceEqDiff, Nat.reduceAdd, Nat.reduceMul, Nat.reduceSub, Nat.reduceLT, Nat.reduceLeDiff, reduceCtorEq, Int.reduceToNat]; done)); (focus (simp (disch := omega) only [push_cast, ↓omv, ↓oas, ↓opk, ↓oal, ↓obx, ↓obd, ↓obs, ↓old, ↓ost, ↓onc, ↓obo, ↓ouo, ↓ocv, ↓omf, ↓oms, ↓osl, ↓ofa, ↓ofd, ↓oia, ↓oix, ↓oex, ↓obi, ↓ogd, ↓pmv, ↓pas, ↓ppk, ↓pal, ↓pbx, ↓pbd, ↓pbs, ↓pld, ↓pst, ↓pnc, ↓pbo, ↓puo, ↓pcv, ↓pmf, ↓pms, ↓psl, ↓pfa, ↓pfd, ↓pia, ↓pix, ↓pex, ↓pbi, ↓pgd, ↓aop_build, ↓reduceIte, Nat.reduceEqDiff, Nat.reduceAdd, Nat.reduceMul, Nat.reduceSub, Nat.reduceLT, Nat.reduceLeDiff, reduceCtorEq, Int.reduceToNat]; done)); (focus (simp; done)); (focus (simp (disch := omega) only [push_cast, ↓omv, ↓oas, ↓opk, ↓oal, ↓obx, ↓obd, ↓obs, ↓old, ↓ost, ↓onc, ↓obo, ↓ouo, ↓ocv, ↓omf, ↓oms, ↓osl, ↓ofa, ↓ofd, ↓oia, ↓oix, ↓oex, ↓obi, ↓ogd, ↓pmv, ↓pas, ↓ppk, ↓pal, ↓pbx, ↓pbd, ↓pbs, ↓pld, ↓pst, ↓pnc, ↓pbo, ↓puo, ↓pcv, ↓pmf, ↓pms, ↓psl, ↓pfa, ↓pfd, ↓pia, ↓pix, ↓pex, ↓pbi, ↓pgd, ↓aop_build, ↓reduceIte, Nat.reduceEqDiff, Nat.reduceAdd, Nat.reduceMul, Nat.reduceSub, Nat.reduceLT, Nat.reduceLeDiff, reduceCtorEq, Int.reduceToNat]; done)); (focus (simp (disch := omega) only [push_cast, ↓omv, ↓oas, ↓opk, ↓oal, ↓obx, ↓obd, ↓obs, ↓old, ↓ost, ↓onc, ↓obo, ↓ouo, ↓ocv, ↓omf, ↓oms, ↓osl, ↓ofa, ↓ofd, ↓oia, ↓oix, ↓oex, ↓obi, ↓ogd, ↓pmv, ↓pas, ↓ppk, ↓pal, ↓pbx, ↓pbd, ↓pbs, ↓pld, ↓pst, ↓pnc, ↓pbo, ↓puo, ↓pcv, ↓pmf, ↓pms, ↓psl, ↓pfa, ↓pfd, ↓pia, ↓pix, ↓pex, ↓pbi, ↓pgd, ↓aop_build, ↓reduceIte, Nat.reduceEqDiff, Nat.reduceAdd, Nat.reduceMul, Nat.reduceSub, Nat.reduceLT, Nat.reduceLeDiff, reduceCtorEq, Int.reduceToNat]; done)); (focus (first | (simp; done) | simp (disch := omega) only [push_cast, ↓omv, ↓oas, ↓opk, ↓oal, ↓obx, ↓obd, ↓obs, ↓old, ↓ost, ↓onc, ↓obo, ↓ouo, ↓ocv, ↓omf, ↓oms, ↓osl, ↓ofa, ↓ofd, ↓oia, ↓oix, ↓oex, ↓obi, ↓ogd, ↓pmv, ↓pas, ↓ppk, ↓pal, ↓pbx, ↓pbd, ↓pbs, ↓pld, ↓pst, ↓pnc, ↓pbo, ↓puo, ↓pcv, ↓pmf, ↓pms, ↓psl, ↓pfa, ↓pfd, ↓pia, ↓pix, ↓pex, ↓pbi, ↓pgd, ↓aop_build, ↓reduceIte, Nat.reduceEqDiff, Nat.reduceAdd, Nat.reduceMul, Nat.reduceSub, Nat.reduceLT, Nat.reduceLeDiff, reduceCtorEq, Int.reduceToNat]; done)); (focus (simp (disch := omega) only [push_cast, ↓omv, ↓oas, ↓opk, ↓oal, ↓obx, ↓obd, ↓obs, ↓old, ↓ost, ↓onc, ↓obo, ↓ouo, ↓ocv, ↓omf, ↓oms, ↓osl, ↓ofa, ↓ofd, ↓oia, ↓oix, ↓oex, ↓obi, ↓ogd, ↓pmv, ↓pas, ↓ppk, ↓pal, ↓pbx, ↓pbd, ↓pbs, ↓pld, ↓pst, ↓pnc, ↓pbo, ↓puo, ↓pcv, ↓pmf, ↓pms, ↓psl, ↓pfa, ↓pfd, ↓pia, ↓pix, ↓pex, ↓pbi, ↓pgd, ↓aop_build, ↓reduceIte, Nat.reduceEqDiff, Nat.reduceAdd, Nat.reduceMul, Nat.reduceSub, Nat.reduceLT, Nat.reduceLeDiff, reduceCtorEq, Int.reduceToNat]; done)))
    | (with_reducible refine And.intro ?_ ?_; focus (first | omega | (constructor <;> omega) | (have hbits : IntKind.i64.bits = 64 := rfl; omega) | (simp []; done) | (simp []; omega)))) <;> try simp (disch := omega) only [push_cast, ↓omv, ↓oas, ↓opk, ↓oal, ↓obx, ↓obd, ↓obs, ↓old, ↓ost, ↓onc, ↓obo, ↓ouo, ↓ocv, ↓omf, ↓oms, ↓osl, ↓ofa, ↓ofd, ↓oia, ↓oix, ↓oex, ↓obi, ↓ogd, ↓pmv, ↓pas, ↓ppk, ↓pal, ↓pbx, ↓pbd, ↓pbs, ↓pld, ↓pst, ↓pnc, ↓pbo, ↓puo, ↓pcv, ↓pmf, ↓pms, ↓psl, ↓pfa, ↓pfd, ↓pia, ↓pix, ↓pex, ↓pbi, ↓pgd, ↓aop_build, ↓reduceIte, Nat.reduceEqDiff, Nat.reduceAdd, Nat.reduceMul, Nat.reduceSub, Nat.reduceLT, Nat.reduceLeDiff, reduceCtorEq, Int.reduceToNat])
  all_goals clear hres
  all_goals try (simp only [ne_eq, Decidable.not_not] at *)
  all_goals try (have h0 : offset = 0 := by assumption; subst h0)
  all_goals first
    | (have hk : from_ + (k : Int) ≤ to := by assumption
       have hstep := segS_step (b := b) (glyphs := glyphs) (delta := delta) (offset := offset) (place := place) (lk := lk) hk
       unfold segGl at hstep
       rw [hk4] at hstep
       simp only [*, not_false_eq_true, not_true_eq_false, ↓reduceIte, Bool.false_eq_true, reduceCtorEq, eq_self] at hstep)
    | skip
  · subst hstep
    refine cs_ret ?_
    try simp (disch := omega) only [push_cast, ↓omv, ↓oas, ↓opk, ↓oal, ↓obx, ↓obd, ↓obs, ↓old, ↓ost, ↓onc, ↓obo, ↓ouo, ↓ocv, ↓omf, ↓oms, ↓osl, ↓ofa, ↓ofd, ↓oia, ↓oix, ↓oex, ↓obi, ↓ogd, ↓pmv, ↓pas, ↓ppk, ↓pal, ↓pbx, ↓pbd, ↓pbs, ↓pld, ↓pst, ↓pnc, ↓pbo, ↓puo, ↓pcv, ↓pmf, ↓pms, ↓psl, ↓pfa, ↓pfd, ↓pia, ↓pix, ↓pex, ↓pbi, ↓pgd, ↓aop_build, ↓reduceIte, Nat.reduceEqDiff, Nat.reduceAdd, Nat.reduceMul, Nat.reduceSub, Nat.reduceLT, Nat.reduceLeDiff, reduceCtorEq, Int.reduceToNat]
    refine ret_mem 2 (by simp) rfl ?_ ?_ ?_ <;> try simp (disch := omega) only [push_cast, ↓omv, ↓oas, ↓opk, ↓oal, ↓obx, ↓obd, ↓obs, ↓old, ↓ost, ↓onc, ↓obo, ↓ouo, ↓ocv, ↓omf, ↓oms, ↓osl, ↓ofa, ↓ofd, ↓oia, ↓oix, ↓oex, ↓obi, ↓ogd, ↓pmv, ↓pas, ↓ppk, ↓pal, ↓pbx, ↓pbd, ↓pbs, ↓pld, ↓pst, ↓pnc, ↓pbo, ↓puo, ↓pcv, ↓pmf, ↓pms, ↓psl, ↓pfa, ↓pfd, ↓pia, ↓pix, ↓pex, ↓pbi, ↓pgd, ↓aop_build, ↓reduceIte, Nat.reduceEqDiff, Nat.reduceAdd, Nat.reduceMul, Nat.reduceSub, Nat.reduceLT, Nat.reduceLeDiff, reduceCtorEq, Int.reduceToNat, leaves_none, Option.isSome_none]
  · refine Again.intro (k + 1, lk) ⟨?_, ?_, hk3, (by first | exact hstep.symm | (rw [show offset = 0 by assumption]; exact hstep.symm))⟩ ?_ (ofL []) .ofL ?_ ?_ <;> simp only []
    · omega
    · omega
    · omega
    · try simp (disch := omega) only [push_cast, ↓omv, ↓oas, ↓opk, ↓oal, ↓obx, ↓obd, ↓obs, ↓old, ↓ost, ↓onc, ↓obo, ↓ouo, ↓ocv, ↓omf, ↓oms, ↓osl, ↓ofa, ↓ofd, ↓oia, ↓oix, ↓oex, ↓obi, ↓ogd, ↓pmv, ↓pas, ↓ppk, ↓pal, ↓pbx, ↓pbd, ↓pbs, ↓pld, ↓pst, ↓pnc, ↓pbo, ↓puo, ↓pcv, ↓pmf, ↓pms, ↓psl, ↓pfa, ↓pfd, ↓pia, ↓pix, ↓pex, ↓pbi, ↓pgd, ↓aop_build, ↓reduceIte, Nat.reduceEqDiff, Nat.reduceAdd, Nat.reduceMul, Nat.reduceSub, Nat.reduceLT, Nat.reduceLeDiff, reduceCtorEq, Int.reduceToNat, Int.natCast_add, Int.cast_ofNat_Int, Int.add_assoc]
    · try simp (disch := omega) only [push_cast, ↓omv, ↓oas, ↓opk, ↓oal, ↓obx, ↓obd, ↓obs, ↓old, ↓ost, ↓onc, ↓obo, ↓ouo, ↓ocv, ↓omf, ↓oms, ↓osl, ↓ofa, ↓ofd, ↓oia, ↓oix, ↓oex, ↓obi, ↓ogd, ↓pmv, ↓pas, ↓ppk, ↓pal, ↓pbx, ↓pbd, ↓pbs, ↓pld, ↓pst, ↓pnc, ↓pbo, ↓puo, ↓pcv, ↓pmf, ↓pms, ↓psl, ↓pfa, ↓pfd, ↓pia, ↓pix, ↓pex, ↓pbi, ↓pgd, ↓aop_build, ↓reduceIte, Nat.reduceEqDiff, Nat.reduceAdd, Nat.reduceMul, Nat.reduceSub, Nat.reduceLT, Nat.reduceLeDiff, reduceCtorEq, Int.reduceToNat]
  · refine Again.intro (k + 1, addS glyphs lk (from_ + k) (from_ + k) (Int.tmod ((rd b (place + offset + 2 * (from_ + k - from_)) 2).getD 0 + delta) 65536)) ⟨?_, ?_, addS_ok (addok_tm hg (by omega) (by omega)) hk3, (by first | exact hstep.symm | (rw [show offset = 0 by assumption]; exact hstep.symm))⟩ ?_ (ofL [(2, 49)]) .ofL ?_ ?_ <;> simp only []
    · omega
    · have := addS_len glyphs lk (from_ + k) (from_ + k) (Int.tmod ((rd b (place + offset + 2 * (from_ + k - from_)) 2).getD 0 + delta) 65536); omega
    · omega
    · try simp (disch := omega) only [push_cast, ↓omv, ↓oas, ↓opk, ↓oal, ↓obx, ↓obd, ↓obs, ↓old, ↓ost, ↓onc, ↓obo, ↓ouo, ↓ocv, ↓omf, ↓oms, ↓osl, ↓ofa, ↓ofd, ↓oia, ↓oix, ↓oex, ↓obi, ↓ogd, ↓pmv, ↓pas, ↓ppk, ↓pal, ↓pbx, ↓pbd, ↓pbs, ↓pld, ↓pst, ↓pnc, ↓pbo, ↓puo, ↓pcv, ↓pmf, ↓pms, ↓psl, ↓pfa, ↓pfd, ↓pia, ↓pix, ↓pex, ↓pbi, ↓pgd, ↓aop_build, ↓reduceIte, Nat.reduceEqDiff, Nat.reduceAdd, Nat.reduceMul, Nat.reduceSub, Nat.reduceLT, Nat.reduceLeDiff, reduceCtorEq, Int.reduceToNat, Int.natCast_add, Int.cast_ofNat_Int, Int.add_assoc]
    · try simp (disch := omega) only [push_cast, ↓omv, ↓oas, ↓opk, ↓oal, ↓obx, ↓obd, ↓obs, ↓old, ↓ost, ↓onc, ↓obo, ↓ouo, ↓ocv, ↓omf, ↓oms, ↓osl, ↓ofa, ↓ofd, ↓oia, ↓oix, ↓oex, ↓obi, ↓ogd, ↓pmv, ↓pas, ↓ppk, ↓pal, ↓pbx, ↓pbd, ↓pbs, ↓pld, ↓pst, ↓pnc, ↓pbo, ↓puo, ↓pcv, ↓pmf, ↓pms, ↓psl, ↓pfa, ↓pfd, ↓pia, ↓pix, ↓pex, ↓pbi, ↓pgd, ↓aop_build, ↓reduceIte, Nat.reduceEqDiff, Nat.reduceAdd, Nat.reduceMul, Nat.reduceSub, Nat.reduceLT, Nat.reduceLeDiff, reduceCtorEq, Int.reduceToNat]
  · refine Again.intro (k + 1, lk) ⟨?_, ?_, hk3, (by first | exact hstep.symm | (rw [show offset = 0 by assumption]; exact hstep.symm))⟩ ?_ (ofL []) .ofL ?_ ?_ <;> simp only []
    · omega
    · omega
    · omega
    · try simp (disch := omega) only [push_cast, ↓omv, ↓oas, ↓opk, ↓oal, ↓obx, ↓obd, ↓obs, ↓old, ↓ost, ↓onc, ↓obo, ↓ouo, ↓ocv, ↓omf, ↓oms, ↓osl, ↓ofa, ↓ofd, ↓oia, ↓oix, ↓oex, ↓obi, ↓ogd, ↓pmv, ↓pas, ↓ppk, ↓pal, ↓pbx, ↓pbd, ↓pbs, ↓pld, ↓pst, ↓pnc, ↓pbo, ↓puo, ↓pcv, ↓pmf, ↓pms, ↓psl, ↓pfa, ↓pfd, ↓pia, ↓pix, ↓pex, ↓pbi, ↓pgd, ↓aop_build, ↓reduceIte, Nat.reduceEqDiff, Nat.reduceAdd, Nat.reduceMul, Nat.reduceSub, Nat.reduceLT, Nat.reduceLeDiff, reduceCtorEq, Int.reduceToNat, Int.natCast_add, Int.cast_ofNat_Int, Int.add_assoc]
    · try simp (disch := omega) only [push_cast, ↓omv, ↓oas, ↓opk, ↓oal, ↓obx, ↓obd, ↓obs, ↓old, ↓ost, ↓onc, ↓obo, ↓ouo, ↓ocv, ↓omf, ↓oms, ↓osl, ↓ofa, ↓ofd, ↓oia, ↓oix, ↓oex, ↓obi, ↓ogd, ↓pmv, ↓pas, ↓ppk, ↓pal, ↓pbx, ↓pbd, ↓pbs, ↓pld, ↓pst, ↓pnc, ↓pbo, ↓puo, ↓pcv, ↓pmf, ↓pms, ↓psl, ↓pfa, ↓pfd, ↓pia, ↓pix, ↓pex, ↓pbi, ↓pgd, ↓aop_build, ↓reduceIte, Nat.reduceEqDiff, Nat.reduceAdd, Nat.reduceMul, Nat.reduceSub, Nat.reduceLT, Nat.reduceLeDiff, reduceCtorEq, Int.reduceToNat]
  · refine Again.intro (k + 1, addS glyphs lk (from_ + k) (from_ + k) (Int.tmod (from_ + k + delta) 65536)) ⟨?_, ?_, addS_ok (addok_tm hg (by omega) (by omega)) hk3, (by first | exact hstep.symm | (rw [show offset = 0 by assumption]; exact hstep.symm))⟩ ?_ (ofL [(2, 25)]) .ofL ?_ ?_ <;> simp only []
    · omega
    · have := addS_len glyphs lk (from_ + k) (from_ + k) (Int.tmod (from_ + k + delta) 65536); omega
    · omega
    · try simp (disch := omega) only [push_cast, ↓omv, ↓oas, ↓opk, ↓oal, ↓obx, ↓obd, ↓obs, ↓old, ↓ost, ↓onc, ↓obo, ↓ouo, ↓ocv, ↓omf, ↓oms, ↓osl, ↓ofa, ↓ofd, ↓oia, ↓oix, ↓oex, ↓obi, ↓ogd, ↓pmv, ↓pas, ↓ppk, ↓pal, ↓pbx, ↓pbd, ↓pbs, ↓pld, ↓pst, ↓pnc, ↓pbo, ↓puo, ↓pcv, ↓pmf, ↓pms, ↓psl, ↓pfa, ↓pfd, ↓pia, ↓pix, ↓pex, ↓pbi, ↓pgd, ↓aop_build, ↓reduceIte, Nat.reduceEqDiff, Nat.reduceAdd, Nat.reduceMul, Nat.reduceSub, Nat.reduceLT, Nat.reduceLeDiff, reduceCtorEq, Int.reduceToNat, Int.natCast_add, Int.cast_ofNat_Int, Int.add_assoc]
    · try simp (disch := omega) only [push_cast, ↓omv, ↓oas, ↓opk, ↓oal, ↓obx, ↓obd, ↓obs, ↓old, ↓ost, ↓onc, ↓obo, ↓ouo, ↓ocv, ↓omf, ↓oms, ↓osl, ↓ofa, ↓ofd, ↓oia, ↓oix, ↓oex, ↓obi, ↓ogd, ↓pmv, ↓pas, ↓ppk, ↓pal, ↓pbx, ↓pbd, ↓pbs, ↓pld, ↓pst, ↓pnc, ↓pbo, ↓puo, ↓pcv, ↓pmf, ↓pms, ↓psl, ↓pfa, ↓pfd, ↓pia, ↓pix, ↓pex, ↓pbi, ↓pgd, ↓aop_build, ↓reduceIte, Nat.reduceEqDiff, Nat.reduceAdd, Nat.reduceMul, Nat.reduceSub, Nat.reduceLT, Nat.reduceLeDiff, reduceCtorEq, Int.reduceToNat]
  · refine Again.intro (k + 1, lk) ⟨?_, ?_, hk3, (by first | exact hstep.symm | (rw [show offset = 0 by assumption]; exact hstep.symm))⟩ ?_ (ofL []) .ofL ?_ ?_ <;> simp only []
    · omega
    · omega
    · omega
    · try simp (disch := omega) only [push_cast, ↓omv, ↓oas, ↓opk, ↓oal, ↓obx, ↓obd, ↓obs, ↓old, ↓ost, ↓onc, ↓obo, ↓ouo, ↓ocv, ↓omf, ↓oms, ↓osl, ↓ofa, ↓ofd, ↓oia, ↓oix, ↓oex, ↓obi, ↓ogd, ↓pmv, ↓pas, ↓ppk, ↓pal, ↓pbx, ↓pbd, ↓pbs, ↓pld, ↓pst, ↓pnc, ↓pbo, ↓puo, ↓pcv, ↓pmf, ↓pms, ↓psl, ↓pfa, ↓pfd, ↓pia, ↓pix, ↓pex, ↓pbi, ↓pgd, ↓aop_build, ↓reduceIte, Nat.reduceEqDiff, Nat.reduceAdd, Nat.reduceMul, Nat.reduceSub, Nat.reduceLT, Nat.reduceLeDiff, reduceCtorEq, Int.reduceToNat, Int.natCast_add, Int.cast_ofNat_Int, Int.add_assoc]
    · try simp (disch := omega) only [push_cast, ↓omv, ↓oas, ↓opk, ↓oal, ↓obx, ↓obd, ↓obs, ↓old, ↓ost, ↓onc, ↓obo, ↓ouo, ↓ocv, ↓omf, ↓oms, ↓osl, ↓ofa, ↓ofd, ↓oia, ↓oix, ↓oex, ↓obi, ↓ogd, ↓pmv, ↓pas, ↓ppk, ↓pal, ↓pbx, ↓pbd, ↓pbs, ↓pld, ↓pst, ↓pnc, ↓pbo, ↓puo, ↓pcv, ↓pmf, ↓pms, ↓psl, ↓pfa, ↓pfd, ↓pia, ↓pix, ↓pex, ↓pbi, ↓pgd, ↓aop_build, ↓reduceIte, Nat.reduceEqDiff, Nat.reduceAdd, Nat.reduceMul, Nat.reduceSub, Nat.reduceLT, Nat.reduceLeDiff, reduceCtorEq, Int.reduceToNat]
  · rw [show (to - from_ + 1 - (k : Int)).toNat = 0 by omega, segS] at hk4
    subst hk4
    refine cs_ret (ret_mem 2 (by simp) rfl ?_ ?_ ?_) <;> try simp (disch := omega) only [push_cast, ↓omv, ↓oas, ↓opk, ↓oal, ↓obx, ↓obd, ↓obs, ↓old, ↓ost, ↓onc, ↓obo, ↓ouo, ↓ocv, ↓omf, ↓oms, ↓osl, ↓ofa, ↓ofd, ↓oia, ↓oix, ↓oex, ↓obi, ↓ogd, ↓pmv, ↓pas, ↓ppk, ↓pal, ↓pbx, ↓pbd, ↓pbs, ↓pld, ↓pst, ↓pnc, ↓pbo, ↓puo, ↓pcv, ↓pmf, ↓pms, ↓psl, ↓pfa, ↓pfd, ↓pia, ↓pix, ↓pex, ↓pbi, ↓pgd, ↓aop_build, ↓reduceIte, Nat.reduceEqDiff, Nat.reduceAdd, Nat.reduceMul, Nat.reduceSub, Nat.reduceLT, Nat.reduceLeDiff, reduceCtorEq, Int.reduceToNat, leaves_some, Option.isSome_some]
end Go.Proofs.Ytohmjbgcmccplaa
