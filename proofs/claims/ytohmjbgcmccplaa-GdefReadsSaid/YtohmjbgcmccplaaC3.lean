/- What putting groups together tells. No condition. -/
import Derived.Test.YtohmjbgcmccplaaC2
namespace Go.Proofs.Ytohmjbgcmccplaa
open Go Go.Ab
set_option maxRecDepth 100000
set_option linter.unusedSimpArgs false
set_option linter.unusedVariables false

structure Grp where
  lo : Int
  hi : Int
  gl : Int
  deriving DecidableEq, Inhabited

def grow (g : Grp) : List PV := [.sc (.int .i32 g.lo), .sc (.int .i32 g.hi), .sc (.int .i64 g.gl)]
def groupR (l : List Grp) : List (List PV) := l.map grow
theorem groupR_len (l : List Grp) : (groupR l).length = l.length := by simp [groupR]
theorem groupR_last (l : List Grp) (p : Grp) : (groupR (l ++ [p])).getD l.length [] = grow p := by simp [groupR]
theorem groupR_three (l : List Grp) : (∀ r : List PV, r ∈ groupR l → r.length = 3) = True := by simp [groupR, grow]
theorem groupR_snoc (l : List Grp) (a b c : Int) : groupR l ++ [[.sc (.int .i32 a), .sc (.int .i32 b), .sc (.int .i64 c)]] = groupR (l ++ [⟨a, b, c⟩]) := by simp [groupR, grow]
theorem groupR_one (a b c : Int) : [[.sc (.int .i32 a), .sc (.int .i32 b), .sc (.int .i64 c)]] = groupR [⟨a, b, c⟩] := by simp [groupR, grow]
theorem groupR_set (l : List Grp) (p : Grp) (a b c : Int) : (groupR (l ++ [p])).set l.length [.sc (.int .i32 a), .sc (.int .i32 b), .sc (.int .i64 c)] = groupR (l ++ [⟨a, b, c⟩]) := by simp [groupR, grow]
theorem groupR_nil : groupR [] = [] := rfl
attribute [push_cast] groupR_snoc groupR_set groupR_nil
theorem minIf (m n : Int) : (if n < m then n else m) = min m n := by split <;> omega
attribute [push_cast] minIf
theorem len_snoc (l : List Grp) (p : Grp) : (l ++ [p]).length = l.length + 1 := by simp
attribute [push_cast] groupR_len groupR_last groupR_three

/-- The first code and the first glyph that count. -/
def gFrom (from_ glyph : Int) : Int := if glyph = 0 then from_ + 1 else from_
def gGlyph (glyph : Int) : Int := if glyph = 0 then 1 else glyph
def gTo (glyphs from_ to glyph : Int) : Int := min to (gFrom from_ glyph + glyphs - 1 - gGlyph glyph)

abbrev listCk (glyphs : Int) (l : List Grp) : List Ck := [.box 68 [.ref 1 l.length, i64 glyphs], .arr 35 3 (groupR l)]

structure AddOK (glyphs from_ to glyph : Int) : Prop where
  g : 0 ≤ glyphs ∧ glyphs ≤ 65536
  f : 0 ≤ from_ ∧ from_ ≤ 1114112
  t : 0 ≤ to ∧ to ≤ 1114111
  y : 0 ≤ glyph ∧ glyph < 4294967296

theorem add_none (glyphs from_ to glyph : Int) (l : List Grp) (hok : AddOK glyphs from_ to glyph) (h : gFrom from_ glyph > gTo glyphs from_ to glyph) :
    AMem Try.prog 44 (listCk glyphs l) [.ptr 0 0, i64 from_, i64 to, i64 glyph] (.tup []) [some (.box 68 [.ref 2 l.length, i64 glyphs]), none, some (.arr 35 3 (groupR l))] := by
  refine amem_body Try.func44 rfl Try.ntmps44 (by simp) ?_
  rw [Try.results44]
  obtain ⟨⟨g1, g2⟩, ⟨f1, f2⟩, ⟨t1, t2⟩, ⟨y1, y2⟩⟩ := hok
  unfold gTo gFrom gGlyph at h
  by_cases hg : glyph = 0 <;> simp only [hg, ↓reduceIte] at h
  all_goals
    repeat' ((first
    | refine cs_seq ?_
    | (refine cs_ret (ret_move 1 rfl ?_ ?_ ?_) <;> try simp (disch := omega) only [push_cast, ↓omv, ↓oas, ↓opk, ↓oal, ↓obx, ↓obd, ↓obs, ↓old, ↓ost, ↓onc, ↓obo, ↓ouo, ↓ocv, ↓omf, ↓oms, ↓osl, ↓ofa, ↓ofd, ↓oia, ↓oix, ↓oex, ↓obi, ↓ogd, ↓pmv, ↓pas, ↓ppk, ↓pal, ↓pbx, ↓pbd, ↓pbs, ↓pld, ↓pst, ↓pnc, ↓pbo, ↓puo, ↓pcv, ↓pmf, ↓pms, ↓psl, ↓pfa, ↓pfd, ↓pia, ↓pix, ↓pex, ↓pbi, ↓pgd, ↓aop_build, ↓reduceIte, Nat.reduceEqDiff, Nat.reduceAdd, Nat.reduceMul, Nat.reduceSub, Nat.reduceLT, Nat.reduceLeDiff, reduceCtorEq, Int.reduceToNat])
    | refine cs_reg (by rfl) (fun K Kp hK hKp => ?_)
    | refine cs_drw mixed (by rfl) (by kernel_rfl) (fun K hK => ?_)
    | (refine hK _ _ ?_; try clear hKp; try clear hK; try clear Kp; try clear K)
    | refine cs_cond ?_
    | refine cs_ret (ret_fn ?_)
    | refine cs_scope ?_
    | refine cs_label ?_
    | refine cs_block ?_
    | refine cs_skip ?_
    | refine cs_exit ?_
    | ((first | refine grdO_dec (fun hp => ?_) (fun hp => ?_) | refine grdO_nd (fun hp => ?_) (fun hp => ?_) | refine grdO_nb (fun hp => ?_) (fun hp => ?_) | refine grdO_b (fun hp => ?_) (fun hp => ?_) | refine grdP_dec (fun hp => ?_) (fun hp => ?_) | refine grdP_nd (fun hp => ?_) (fun hp => ?_) | refine grdP_nb (fun hp => ?_) (fun hp => ?_) | refine grdP_b (fun hp => ?_) (fun hp => ?_) | refine condK_d (fun hp => ?_) (fun hp => ?_) | refine condK_nd (fun hp => ?_) (fun hp => ?_) | refine condK_nb (fun hp => ?_) (fun hp => ?_) | refine condK_b (fun hp => ?_) (fun hp => ?_)) <;> first | (exfalso; omega; done) | skip)
    | (with_reducible refine And.intro ?_ ?_; focus (first | omega | (constructor <;> omega) | (have hbits : IntKind.i64.bits = 64 := rfl; omega) | (simp []; done) | (simp []; omega)))) <;> try simp (disch := omega) only [push_cast, ↓omv, ↓oas, ↓opk, ↓oal, ↓obx, ↓obd, ↓obs, ↓old, ↓ost, ↓onc, ↓obo, ↓ouo, ↓ocv, ↓omf, ↓oms, ↓osl, ↓ofa, ↓ofd, ↓oia, ↓oix, ↓oex, ↓obi, ↓ogd, ↓pmv, ↓pas, ↓ppk, ↓pal, ↓pbx, ↓pbd, ↓pbs, ↓pld, ↓pst, ↓pnc, ↓pbo, ↓puo, ↓pcv, ↓pmf, ↓pms, ↓psl, ↓pfa, ↓pfd, ↓pia, ↓pix, ↓pex, ↓pbi, ↓pgd, ↓aop_build, ↓reduceIte, Nat.reduceEqDiff, Nat.reduceAdd, Nat.reduceMul, Nat.reduceSub, Nat.reduceLT, Nat.reduceLeDiff, reduceCtorEq, Int.reduceToNat])

theorem add_more (glyphs from_ to glyph : Int) (l : List Grp) (p : Grp) (hl : l.length ≤ 1000000000) (hok : AddOK glyphs from_ to glyph) (h : gFrom from_ glyph ≤ gTo glyphs from_ to glyph) (hp : 0 ≤ p.lo ∧ p.lo ≤ p.hi ∧ p.hi ≤ 1114111 ∧ 0 ≤ p.gl ∧ p.gl ≤ 4294967296)
    (h1 : p.hi + 1 = gFrom from_ glyph) (h2 : p.gl + (p.hi - p.lo) + 1 = gGlyph glyph) :
    AMem Try.prog 44 (listCk glyphs (l ++ [p])) [.ptr 0 0, i64 from_, i64 to, i64 glyph] (.tup []) [some (.box 68 [.ref 2 (l.length + 1), i64 glyphs]), none, some (.arr 35 3 (groupR (l ++ [⟨p.lo, gTo glyphs from_ to glyph, p.gl⟩])))] := by
  refine amem_body Try.func44 rfl Try.ntmps44 (by simp) ?_
  rw [Try.results44]
  obtain ⟨⟨g1, g2⟩, ⟨f1, f2⟩, ⟨t1, t2⟩, ⟨y1, y2⟩⟩ := hok
  obtain ⟨p1, p2, p3, p4, p5⟩ := hp
  unfold gTo gFrom gGlyph at *
  by_cases hg : glyph = 0 <;> simp only [hg, ↓reduceIte] at h h1 h2 ⊢
  all_goals
    repeat' ((first
    | refine cs_seq ?_
    | (refine cs_ret (ret_move 1 rfl ?_ ?_ ?_) <;> try simp (disch := omega) only [push_cast, ↓omv, ↓oas, ↓opk, ↓oal, ↓obx, ↓obd, ↓obs, ↓old, ↓ost, ↓onc, ↓obo, ↓ouo, ↓ocv, ↓omf, ↓oms, ↓osl, ↓ofa, ↓ofd, ↓oia, ↓oix, ↓oex, ↓obi, ↓ogd, ↓pmv, ↓pas, ↓ppk, ↓pal, ↓pbx, ↓pbd, ↓pbs, ↓pld, ↓pst, ↓pnc, ↓pbo, ↓puo, ↓pcv, ↓pmf, ↓pms, ↓psl, ↓pfa, ↓pfd, ↓pia, ↓pix, ↓pex, ↓pbi, ↓pgd, ↓aop_build, ↓reduceIte, Nat.reduceEqDiff, Nat.reduceAdd, Nat.reduceMul, Nat.reduceSub, Nat.reduceLT, Nat.reduceLeDiff, reduceCtorEq, Int.reduceToNat])
    | refine cs_reg (by rfl) (fun K Kp hK hKp => ?_)
    | refine cs_drw mixed (by rfl) (by kernel_rfl) (fun K hK => ?_)
    | (refine hK _ _ ?_; try clear hKp; try clear hK; try clear Kp; try clear K)
    | refine cs_cond ?_
    | refine cs_ret (ret_fn ?_)
    | refine cs_scope ?_
    | refine cs_label ?_
    | refine cs_block ?_
    | refine cs_skip ?_
    | refine cs_exit ?_
    | ((first | refine grdO_dec (fun hp => ?_) (fun hp => ?_) | refine grdO_nd (fun hp => ?_) (fun hp => ?_) | refine grdO_nb (fun hp => ?_) (fun hp => ?_) | refine grdO_b (fun hp => ?_) (fun hp => ?_) | refine grdP_dec (fun hp => ?_) (fun hp => ?_) | refine grdP_nd (fun hp => ?_) (fun hp => ?_) | refine grdP_nb (fun hp => ?_) (fun hp => ?_) | refine grdP_b (fun hp => ?_) (fun hp => ?_) | refine condK_d (fun hp => ?_) (fun hp => ?_) | refine condK_nd (fun hp => ?_) (fun hp => ?_) | refine condK_nb (fun hp => ?_) (fun hp => ?_) | refine condK_b (fun hp => ?_) (fun hp => ?_)) <;> first | (exfalso; omega; done) | skip)
    | (with_reducible refine And.intro ?_ ?_; focus (first | omega | (constructor <;> omega) | (have hbits : IntKind.i64.bits = 64 := rfl; omega) | (simp [len_snoc, Int.add_sub_cancel, grow, Int.natCast_add, Int.cast_ofNat_Int]; done) | (simp [len_snoc, Int.add_sub_cancel, grow, Int.natCast_add, Int.cast_ofNat_Int]; omega)))) <;> try simp (disch := omega) only [push_cast, ↓omv, ↓oas, ↓opk, ↓oal, ↓obx, ↓obd, ↓obs, ↓old, ↓ost, ↓onc, ↓obo, ↓ouo, ↓ocv, ↓omf, ↓oms, ↓osl, ↓ofa, ↓ofd, ↓oia, ↓oix, ↓oex, ↓obi, ↓ogd, ↓pmv, ↓pas, ↓ppk, ↓pal, ↓pbx, ↓pbd, ↓pbs, ↓pld, ↓pst, ↓pnc, ↓pbo, ↓puo, ↓pcv, ↓pmf, ↓pms, ↓psl, ↓pfa, ↓pfd, ↓pia, ↓pix, ↓pex, ↓pbi, ↓pgd, ↓aop_build, ↓reduceIte, Nat.reduceEqDiff, Nat.reduceAdd, Nat.reduceMul, Nat.reduceSub, Nat.reduceLT, Nat.reduceLeDiff, reduceCtorEq, Int.reduceToNat, len_snoc, Int.add_sub_cancel, grow, Int.natCast_add, Int.cast_ofNat_Int])

theorem add_new (glyphs from_ to glyph : Int) (l : List Grp) (p : Grp) (hl : l.length ≤ 1000000000) (hok : AddOK glyphs from_ to glyph) (h : gFrom from_ glyph ≤ gTo glyphs from_ to glyph) (hp : 0 ≤ p.lo ∧ p.lo ≤ p.hi ∧ p.hi ≤ 1114111 ∧ 0 ≤ p.gl ∧ p.gl ≤ 4294967296)
    (h1 : ¬ (p.hi + 1 = gFrom from_ glyph ∧ p.gl + (p.hi - p.lo) + 1 = gGlyph glyph)) :
    AMem Try.prog 44 (listCk glyphs (l ++ [p])) [.ptr 0 0, i64 from_, i64 to, i64 glyph] (.tup []) [some (.box 68 [.ref 2 (l.length + 1 + 1), i64 glyphs]), none, some (.arr 35 3 (groupR (l ++ [p] ++ [⟨gFrom from_ glyph, gTo glyphs from_ to glyph, gGlyph glyph⟩])))] := by
  refine amem_body Try.func44 rfl Try.ntmps44 (by simp) ?_
  rw [Try.results44]
  obtain ⟨⟨g1, g2⟩, ⟨f1, f2⟩, ⟨t1, t2⟩, ⟨y1, y2⟩⟩ := hok
  obtain ⟨p1, p2, p3, p4, p5⟩ := hp
  unfold gTo gFrom gGlyph at *
  by_cases hg : glyph = 0 <;> simp only [hg, ↓reduceIte] at h h1 ⊢
  · repeat' ((first
    | refine cs_seq ?_
    | (refine cs_ret (ret_move 1 rfl ?_ ?_ ?_) <;> try simp (disch := omega) only [push_cast, ↓omv, ↓oas, ↓opk, ↓oal, ↓obx, ↓obd, ↓obs, ↓old, ↓ost, ↓onc, ↓obo, ↓ouo, ↓ocv, ↓omf, ↓oms, ↓osl, ↓ofa, ↓ofd, ↓oia, ↓oix, ↓oex, ↓obi, ↓ogd, ↓pmv, ↓pas, ↓ppk, ↓pal, ↓pbx, ↓pbd, ↓pbs, ↓pld, ↓pst, ↓pnc, ↓pbo, ↓puo, ↓pcv, ↓pmf, ↓pms, ↓psl, ↓pfa, ↓pfd, ↓pia, ↓pix, ↓pex, ↓pbi, ↓pgd, ↓aop_build, ↓reduceIte, Nat.reduceEqDiff, Nat.reduceAdd, Nat.reduceMul, Nat.reduceSub, Nat.reduceLT, Nat.reduceLeDiff, reduceCtorEq, Int.reduceToNat])
    | (refine end_mem 83 (by simp) rfl ?_ ?_ ?_ <;> try simp (disch := omega) only [push_cast, ↓omv, ↓oas, ↓opk, ↓oal, ↓obx, ↓obd, ↓obs, ↓old, ↓ost, ↓onc, ↓obo, ↓ouo, ↓ocv, ↓omf, ↓oms, ↓osl, ↓ofa, ↓ofd, ↓oia, ↓oix, ↓oex, ↓obi, ↓ogd, ↓pmv, ↓pas, ↓ppk, ↓pal, ↓pbx, ↓pbd, ↓pbs, ↓pld, ↓pst, ↓pnc, ↓pbo, ↓puo, ↓pcv, ↓pmf, ↓pms, ↓psl, ↓pfa, ↓pfd, ↓pia, ↓pix, ↓pex, ↓pbi, ↓pgd, ↓aop_build, ↓reduceIte, Nat.reduceEqDiff, Nat.reduceAdd, Nat.reduceMul, Nat.reduceSub, Nat.reduceLT, Nat.reduceLeDiff, reduceCtorEq, Int.reduceToNat])
    | refine cs_reg (by rfl) (fun K Kp hK hKp => ?_)
    | refine cs_drw mixed (by rfl) (by kernel_rfl) (fun K hK => ?_)
    | (refine hK _ _ ?_; try clear hKp; try clear hK; try clear Kp; try clear K)
    | refine cs_cond ?_
    | refine cs_ret (ret_fn ?_)
    | refine cs_scope ?_
    | refine cs_label ?_
    | refine cs_block ?_
    | refine cs_skip ?_
    | refine cs_exit ?_
    | ((first | refine grdO_dec (fun hp => ?_) (fun hp => ?_) | refine grdO_nd (fun hp => ?_) (fun hp => ?_) | refine grdO_nb (fun hp => ?_) (fun hp => ?_) | refine grdO_b (fun hp => ?_) (fun hp => ?_) | refine grdP_dec (fun hp => ?_) (fun hp => ?_) | refine grdP_nd (fun hp => ?_) (fun hp => ?_) | refine grdP_nb (fun hp => ?_) (fun hp => ?_) | refine grdP_b (fun hp => ?_) (fun hp => ?_) | refine condK_d (fun hp => ?_) (fun hp => ?_) | refine condK_nd (fun hp => ?_) (fun hp => ?_) | refine condK_nb (fun hp => ?_) (fun hp => ?_) | refine condK_b (fun hp => ?_) (fun hp => ?_)) <;> first | (exfalso; omega; done) | skip)
    | (with_reducible refine And.intro ?_ ?_; focus (first | omega | (constructor <;> omega) | (have hbits : IntKind.i64.bits = 64 := rfl; omega) | (simp [len_snoc, Int.add_sub_cancel, grow, Int.natCast_add, Int.cast_ofNat_Int, maxLen]; done) | (simp [len_snoc, Int.add_sub_cancel, grow, Int.natCast_add, Int.cast_ofNat_Int, maxLen]; omega)))) <;> try simp (disch := omega) only [push_cast, ↓omv, ↓oas, ↓opk, ↓oal, ↓obx, ↓obd, ↓obs, ↓old, ↓ost, ↓onc, ↓obo, ↓ouo, ↓ocv, ↓omf, ↓oms, ↓osl, ↓ofa, ↓ofd, ↓oia, ↓oix, ↓oex, ↓obi, ↓ogd, ↓pmv, ↓pas, ↓ppk, ↓pal, ↓pbx, ↓pbd, ↓pbs, ↓pld, ↓pst, ↓pnc, ↓pbo, ↓puo, ↓pcv, ↓pmf, ↓pms, ↓psl, ↓pfa, ↓pfd, ↓pia, ↓pix, ↓pex, ↓pbi, ↓pgd, ↓aop_build, ↓reduceIte, Nat.reduceEqDiff, Nat.reduceAdd, Nat.reduceMul, Nat.reduceSub, Nat.reduceLT, Nat.reduceLeDiff, reduceCtorEq, Int.reduceToNat, len_snoc, Int.add_sub_cancel, grow, Int.natCast_add, Int.cast_ofNat_Int, maxLen])
  · repeat' ((first
    | refine cs_seq ?_
    | (refine cs_ret (ret_move 1 rfl ?_ ?_ ?_) <;> try simp (disch := omega) only [push_cast, ↓omv, ↓oas, ↓opk, ↓oal, ↓obx, ↓obd, ↓obs, ↓old, ↓ost, ↓onc, ↓obo, ↓ouo, ↓ocv, ↓omf, ↓oms, ↓osl, ↓ofa, ↓ofd, ↓oia, ↓oix, ↓oex, ↓obi, ↓ogd, ↓pmv, ↓pas, ↓ppk, ↓pal, ↓pbx, ↓pbd, ↓pbs, ↓pld, ↓pst, ↓pnc, ↓pbo, ↓puo, ↓pcv, ↓pmf, ↓pms, ↓psl, ↓pfa, ↓pfd, ↓pia, ↓pix, ↓pex, ↓pbi, ↓pgd, ↓aop_build, ↓reduceIte, Nat.reduceEqDiff, Nat.reduceAdd, Nat.reduceMul, Nat.reduceSub, Nat.reduceLT, Nat.reduceLeDiff, reduceCtorEq, Int.reduceToNat])
    | (refine end_mem 79 (by simp) rfl ?_ ?_ ?_ <;> try simp (disch := omega) only [push_cast, ↓omv, ↓oas, ↓opk, ↓oal, ↓obx, ↓obd, ↓obs, ↓old, ↓ost, ↓onc, ↓obo, ↓ouo, ↓ocv, ↓omf, ↓oms, ↓osl, ↓ofa, ↓ofd, ↓oia, ↓oix, ↓oex, ↓obi, ↓ogd, ↓pmv, ↓pas, ↓ppk, ↓pal, ↓pbx, ↓pbd, ↓pbs, ↓pld, ↓pst, ↓pnc, ↓pbo, ↓puo, ↓pcv, ↓pmf, ↓pms, ↓psl, ↓pfa, ↓pfd, ↓pia, ↓pix, ↓pex, ↓pbi, ↓pgd, ↓aop_build, ↓reduceIte, Nat.reduceEqDiff, Nat.reduceAdd, Nat.reduceMul, Nat.reduceSub, Nat.reduceLT, Nat.reduceLeDiff, reduceCtorEq, Int.reduceToNat])
    | refine cs_reg (by rfl) (fun K Kp hK hKp => ?_)
    | refine cs_drw mixed (by rfl) (by kernel_rfl) (fun K hK => ?_)
    | (refine hK _ _ ?_; try clear hKp; try clear hK; try clear Kp; try clear K)
    | refine cs_cond ?_
    | refine cs_ret (ret_fn ?_)
    | refine cs_scope ?_
    | refine cs_label ?_
    | refine cs_block ?_
    | refine cs_skip ?_
    | refine cs_exit ?_
    | ((first | refine grdO_dec (fun hp => ?_) (fun hp => ?_) | refine grdO_nd (fun hp => ?_) (fun hp => ?_) | refine grdO_nb (fun hp => ?_) (fun hp => ?_) | refine grdO_b (fun hp => ?_) (fun hp => ?_) | refine grdP_dec (fun hp => ?_) (fun hp => ?_) | refine grdP_nd (fun hp => ?_) (fun hp => ?_) | refine grdP_nb (fun hp => ?_) (fun hp => ?_) | refine grdP_b (fun hp => ?_) (fun hp => ?_) | refine condK_d (fun hp => ?_) (fun hp => ?_) | refine condK_nd (fun hp => ?_) (fun hp => ?_) | refine condK_nb (fun hp => ?_) (fun hp => ?_) | refine condK_b (fun hp => ?_) (fun hp => ?_)) <;> first | (exfalso; omega; done) | skip)
    | (with_reducible refine And.intro ?_ ?_; focus (first | omega | (constructor <;> omega) | (have hbits : IntKind.i64.bits = 64 := rfl; omega) | (simp [len_snoc, Int.add_sub_cancel, grow, Int.natCast_add, Int.cast_ofNat_Int, maxLen]; done) | (simp [len_snoc, Int.add_sub_cancel, grow, Int.natCast_add, Int.cast_ofNat_Int, maxLen]; omega)))) <;> try simp (disch := omega) only [push_cast, ↓omv, ↓oas, ↓opk, ↓oal, ↓obx, ↓obd, ↓obs, ↓old, ↓ost, ↓onc, ↓obo, ↓ouo, ↓ocv, ↓omf, ↓oms, ↓osl, ↓ofa, ↓ofd, ↓oia, ↓oix, ↓oex, ↓obi, ↓ogd, ↓pmv, ↓pas, ↓ppk, ↓pal, ↓pbx, ↓pbd, ↓pbs, ↓pld, ↓pst, ↓pnc, ↓pbo, ↓puo, ↓pcv, ↓pmf, ↓pms, ↓psl, ↓pfa, ↓pfd, ↓pia, ↓pix, ↓pex, ↓pbi, ↓pgd, ↓aop_build, ↓reduceIte, Nat.reduceEqDiff, Nat.reduceAdd, Nat.reduceMul, Nat.reduceSub, Nat.reduceLT, Nat.reduceLeDiff, reduceCtorEq, Int.reduceToNat, len_snoc, Int.add_sub_cancel, grow, Int.natCast_add, Int.cast_ofNat_Int, maxLen])

theorem add_first (glyphs from_ to glyph : Int) (hok : AddOK glyphs from_ to glyph) (h : gFrom from_ glyph ≤ gTo glyphs from_ to glyph) :
    AMem Try.prog 44 (listCk glyphs []) [.ptr 0 0, i64 from_, i64 to, i64 glyph] (.tup []) [some (.box 68 [.ref 2 1, i64 glyphs]), none, some (.arr 35 3 (groupR [⟨gFrom from_ glyph, gTo glyphs from_ to glyph, gGlyph glyph⟩]))] := by
  refine amem_body Try.func44 rfl Try.ntmps44 (by simp) ?_
  rw [Try.results44]
  obtain ⟨⟨g1, g2⟩, ⟨f1, f2⟩, ⟨t1, t2⟩, ⟨y1, y2⟩⟩ := hok
  unfold gTo gFrom gGlyph at *
  by_cases hg : glyph = 0 <;> simp only [hg, ↓reduceIte] at h ⊢
  · repeat' ((first
    | refine cs_seq ?_
    | (refine cs_ret (ret_move 1 rfl ?_ ?_ ?_) <;> try simp (disch := omega) only [push_cast, ↓omv, ↓oas, ↓opk, ↓oal, ↓obx, ↓obd, ↓obs, ↓old, ↓ost, ↓onc, ↓obo, ↓ouo, ↓ocv, ↓omf, ↓oms, ↓osl, ↓ofa, ↓ofd, ↓oia, ↓oix, ↓oex, ↓obi, ↓ogd, ↓pmv, ↓pas, ↓ppk, ↓pal, ↓pbx, ↓pbd, ↓pbs, ↓pld, ↓pst, ↓pnc, ↓pbo, ↓puo, ↓pcv, ↓pmf, ↓pms, ↓psl, ↓pfa, ↓pfd, ↓pia, ↓pix, ↓pex, ↓pbi, ↓pgd, ↓aop_build, ↓reduceIte, Nat.reduceEqDiff, Nat.reduceAdd, Nat.reduceMul, Nat.reduceSub, Nat.reduceLT, Nat.reduceLeDiff, reduceCtorEq, Int.reduceToNat])
    | (refine end_mem 46 (by simp) rfl ?_ ?_ ?_ <;> try simp (disch := omega) only [push_cast, ↓omv, ↓oas, ↓opk, ↓oal, ↓obx, ↓obd, ↓obs, ↓old, ↓ost, ↓onc, ↓obo, ↓ouo, ↓ocv, ↓omf, ↓oms, ↓osl, ↓ofa, ↓ofd, ↓oia, ↓oix, ↓oex, ↓obi, ↓ogd, ↓pmv, ↓pas, ↓ppk, ↓pal, ↓pbx, ↓pbd, ↓pbs, ↓pld, ↓pst, ↓pnc, ↓pbo, ↓puo, ↓pcv, ↓pmf, ↓pms, ↓psl, ↓pfa, ↓pfd, ↓pia, ↓pix, ↓pex, ↓pbi, ↓pgd, ↓aop_build, ↓reduceIte, Nat.reduceEqDiff, Nat.reduceAdd, Nat.reduceMul, Nat.reduceSub, Nat.reduceLT, Nat.reduceLeDiff, reduceCtorEq, Int.reduceToNat])
    | refine cs_reg (by rfl) (fun K Kp hK hKp => ?_)
    | refine cs_drw mixed (by rfl) (by kernel_rfl) (fun K hK => ?_)
    | (refine hK _ _ ?_; try clear hKp; try clear hK; try clear Kp; try clear K)
    | refine cs_cond ?_
    | refine cs_ret (ret_fn ?_)
    | refine cs_scope ?_
    | refine cs_label ?_
    | refine cs_block ?_
    | refine cs_skip ?_
    | refine cs_exit ?_
    | ((first | refine grdO_dec (fun hp => ?_) (fun hp => ?_) | refine grdO_nd (fun hp => ?_) (fun hp => ?_) | refine grdO_nb (fun hp => ?_) (fun hp => ?_) | refine grdO_b (fun hp => ?_) (fun hp => ?_) | refine grdP_dec (fun hp => ?_) (fun hp => ?_) | refine grdP_nd (fun hp => ?_) (fun hp => ?_) | refine grdP_nb (fun hp => ?_) (fun hp => ?_) | refine grdP_b (fun hp => ?_) (fun hp => ?_) | refine condK_d (fun hp => ?_) (fun hp => ?_) | refine condK_nd (fun hp => ?_) (fun hp => ?_) | refine condK_nb (fun hp => ?_) (fun hp => ?_) | refine condK_b (fun hp => ?_) (fun hp => ?_)) <;> first | (exfalso; omega; done) | skip)
    | (with_reducible refine And.intro ?_ ?_; focus (first | omega | (constructor <;> omega) | (have hbits : IntKind.i64.bits = 64 := rfl; omega) | (simp [len_snoc, Int.add_sub_cancel, grow, Int.natCast_add, Int.cast_ofNat_Int, maxLen]; done) | (simp [len_snoc, Int.add_sub_cancel, grow, Int.natCast_add, Int.cast_ofNat_Int, maxLen]; omega)))) <;> try simp (disch := omega) only [push_cast, ↓omv, ↓oas, ↓opk, ↓oal, ↓obx, ↓obd, ↓obs, ↓old, ↓ost, ↓onc, ↓obo, ↓ouo, ↓ocv, ↓omf, ↓oms, ↓osl, ↓ofa, ↓ofd, ↓oia, ↓oix, ↓oex, ↓obi, ↓ogd, ↓pmv, ↓pas, ↓ppk, ↓pal, ↓pbx, ↓pbd, ↓pbs, ↓pld, ↓pst, ↓pnc, ↓pbo, ↓puo, ↓pcv, ↓pmf, ↓pms, ↓psl, ↓pfa, ↓pfd, ↓pia, ↓pix, ↓pex, ↓pbi, ↓pgd, ↓aop_build, ↓reduceIte, Nat.reduceEqDiff, Nat.reduceAdd, Nat.reduceMul, Nat.reduceSub, Nat.reduceLT, Nat.reduceLeDiff, reduceCtorEq, Int.reduceToNat, len_snoc, Int.add_sub_cancel, grow, Int.natCast_add, Int.cast_ofNat_Int, maxLen])
    rw [groupR_one]
  · repeat' ((first
    | refine cs_seq ?_
    | (refine cs_ret (ret_move 1 rfl ?_ ?_ ?_) <;> try simp (disch := omega) only [push_cast, ↓omv, ↓oas, ↓opk, ↓oal, ↓obx, ↓obd, ↓obs, ↓old, ↓ost, ↓onc, ↓obo, ↓ouo, ↓ocv, ↓omf, ↓oms, ↓osl, ↓ofa, ↓ofd, ↓oia, ↓oix, ↓oex, ↓obi, ↓ogd, ↓pmv, ↓pas, ↓ppk, ↓pal, ↓pbx, ↓pbd, ↓pbs, ↓pld, ↓pst, ↓pnc, ↓pbo, ↓puo, ↓pcv, ↓pmf, ↓pms, ↓psl, ↓pfa, ↓pfd, ↓pia, ↓pix, ↓pex, ↓pbi, ↓pgd, ↓aop_build, ↓reduceIte, Nat.reduceEqDiff, Nat.reduceAdd, Nat.reduceMul, Nat.reduceSub, Nat.reduceLT, Nat.reduceLeDiff, reduceCtorEq, Int.reduceToNat])
    | (refine end_mem 42 (by simp) rfl ?_ ?_ ?_ <;> try simp (disch := omega) only [push_cast, ↓omv, ↓oas, ↓opk, ↓oal, ↓obx, ↓obd, ↓obs, ↓old, ↓ost, ↓onc, ↓obo, ↓ouo, ↓ocv, ↓omf, ↓oms, ↓osl, ↓ofa, ↓ofd, ↓oia, ↓oix, ↓oex, ↓obi, ↓ogd, ↓pmv, ↓pas, ↓ppk, ↓pal, ↓pbx, ↓pbd, ↓pbs, ↓pld, ↓pst, ↓pnc, ↓pbo, ↓puo, ↓pcv, ↓pmf, ↓pms, ↓psl, ↓pfa, ↓pfd, ↓pia, ↓pix, ↓pex, ↓pbi, ↓pgd, ↓aop_build, ↓reduceIte, Nat.reduceEqDiff, Nat.reduceAdd, Nat.reduceMul, Nat.reduceSub, Nat.reduceLT, Nat.reduceLeDiff, reduceCtorEq, Int.reduceToNat])
    | refine cs_reg (by rfl) (fun K Kp hK hKp => ?_)
    | refine cs_drw mixed (by rfl) (by kernel_rfl) (fun K hK => ?_)
    | (refine hK _ _ ?_; try clear hKp; try clear hK; try clear Kp; try clear K)
    | refine cs_cond ?_
    | refine cs_ret (ret_fn ?_)
    | refine cs_scope ?_
    | refine cs_label ?_
    | refine cs_block ?_
    | refine cs_skip ?_
    | refine cs_exit ?_
    | ((first | refine grdO_dec (fun hp => ?_) (fun hp => ?_) | refine grdO_nd (fun hp => ?_) (fun hp => ?_) | refine grdO_nb (fun hp => ?_) (fun hp => ?_) | refine grdO_b (fun hp => ?_) (fun hp => ?_) | refine grdP_dec (fun hp => ?_) (fun hp => ?_) | refine grdP_nd (fun hp => ?_) (fun hp => ?_) | refine grdP_nb (fun hp => ?_) (fun hp => ?_) | refine grdP_b (fun hp => ?_) (fun hp => ?_) | refine condK_d (fun hp => ?_) (fun hp => ?_) | refine condK_nd (fun hp => ?_) (fun hp => ?_) | refine condK_nb (fun hp => ?_) (fun hp => ?_) | refine condK_b (fun hp => ?_) (fun hp => ?_)) <;> first | (exfalso; omega; done) | skip)
    | (with_reducible refine And.intro ?_ ?_; focus (first | omega | (constructor <;> omega) | (have hbits : IntKind.i64.bits = 64 := rfl; omega) | (simp [len_snoc, Int.add_sub_cancel, grow, Int.natCast_add, Int.cast_ofNat_Int, maxLen]; done) | (simp [len_snoc, Int.add_sub_cancel, grow, Int.natCast_add, Int.cast_ofNat_Int, maxLen]; omega)))) <;> try simp (disch := omega) only [push_cast, ↓omv, ↓oas, ↓opk, ↓oal, ↓obx, ↓obd, ↓obs, ↓old, ↓ost, ↓onc, ↓obo, ↓ouo, ↓ocv, ↓omf, ↓oms, ↓osl, ↓ofa, ↓ofd, ↓oia, ↓oix, ↓oex, ↓obi, ↓ogd, ↓pmv, ↓pas, ↓ppk, ↓pal, ↓pbx, ↓pbd, ↓pbs, ↓pld, ↓pst, ↓pnc, ↓pbo, ↓puo, ↓pcv, ↓pmf, ↓pms, ↓psl, ↓pfa, ↓pfd, ↓pia, ↓pix, ↓pex, ↓pbi, ↓pgd, ↓aop_build, ↓reduceIte, Nat.reduceEqDiff, Nat.reduceAdd, Nat.reduceMul, Nat.reduceSub, Nat.reduceLT, Nat.reduceLeDiff, reduceCtorEq, Int.reduceToNat, len_snoc, Int.add_sub_cancel, grow, Int.natCast_add, Int.cast_ofNat_Int, maxLen])
    rw [groupR_one]

/-- Groups with one more range behind them. -/
def addS (glyphs : Int) (l : List Grp) (from_ to glyph : Int) : List Grp :=
  if gFrom from_ glyph > gTo glyphs from_ to glyph then l
  else match l.getLast? with
    | none => [⟨gFrom from_ glyph, gTo glyphs from_ to glyph, gGlyph glyph⟩]
    | some p => if p.hi + 1 = gFrom from_ glyph ∧ p.gl + (p.hi - p.lo) + 1 = gGlyph glyph then l.dropLast ++ [⟨p.lo, gTo glyphs from_ to glyph, p.gl⟩]
      else l ++ [⟨gFrom from_ glyph, gTo glyphs from_ to glyph, gGlyph glyph⟩]

def GOK (p : Grp) : Prop := 0 ≤ p.lo ∧ p.lo ≤ p.hi ∧ p.hi ≤ 1114111 ∧ 0 ≤ p.gl ∧ p.gl ≤ 4294967296

theorem addS_len (glyphs : Int) (l : List Grp) (from_ to glyph : Int) : (addS glyphs l from_ to glyph).length ≤ l.length + 1 := by
  unfold addS
  split
  · omega
  · split
    · simp
    · split
      · simp
      · simp

theorem addS_ok {glyphs : Int} {l : List Grp} {from_ to glyph : Int} (hok : AddOK glyphs from_ to glyph) (h : ∀ p ∈ l, GOK p) : ∀ p ∈ addS glyphs l from_ to glyph, GOK p := by
  obtain ⟨⟨g1, g2⟩, ⟨f1, f2⟩, ⟨t1, t2⟩, ⟨y1, y2⟩⟩ := hok
  have hnew : ¬ gFrom from_ glyph > gTo glyphs from_ to glyph → GOK ⟨gFrom from_ glyph, gTo glyphs from_ to glyph, gGlyph glyph⟩ := fun hc => by
    unfold gTo gFrom gGlyph at *
    by_cases hg : glyph = 0 <;> simp only [hg, ↓reduceIte] at hc ⊢ <;> refine ⟨?_, ?_, ?_, ?_, ?_⟩ <;> simp only [] <;> omega
  intro p hp
  unfold addS at hp
  split at hp
  · exact h p hp
  · rename_i hc
    split at hp
    · simp at hp; subst hp; exact hnew hc
    · rename_i q hq
      have hql : q ∈ l := List.mem_of_getLast? hq
      split at hp
      · rename_i hm
        rcases List.mem_append.1 hp with hp | hp
        · exact h p (List.dropLast_subset l hp)
        · simp at hp
          subst hp
          have hk := hnew hc
          have hq2 := h q hql
          unfold GOK at hk hq2 ⊢
          simp only [] at hk hq2 ⊢
          omega
      · rcases List.mem_append.1 hp with hp | hp
        · exact h p hp
        · simp at hp; subst hp; exact hnew hc

theorem add_fn (glyphs from_ to glyph : Int) (l : List Grp) (hl : l.length ≤ 1000000000) (hok : AddOK glyphs from_ to glyph) (hG : ∀ p ∈ l, GOK p) :
    AMem Try.prog 44 (listCk glyphs l) [.ptr 0 0, i64 from_, i64 to, i64 glyph] (.tup []) [some (.box 68 [.ref 2 (addS glyphs l from_ to glyph).length, i64 glyphs]), none, some (.arr 35 3 (groupR (addS glyphs l from_ to glyph)))] := by
  by_cases hc : gFrom from_ glyph > gTo glyphs from_ to glyph
  · rw [show addS glyphs l from_ to glyph = l by unfold addS; rw [if_pos hc]]
    exact add_none glyphs from_ to glyph l hok hc
  · rcases List.eq_nil_or_concat l with rfl | ⟨l0, p, rfl⟩
    · rw [show addS glyphs [] from_ to glyph = [⟨gFrom from_ glyph, gTo glyphs from_ to glyph, gGlyph glyph⟩] by unfold addS; rw [if_neg hc]; rfl]
      exact add_first glyphs from_ to glyph hok (by omega)
    · simp only [List.concat_eq_append] at hG hl ⊢
      have hp := hG p (by simp)
      have hl' : l0.length ≤ 1000000000 := by simp at hl; omega
      by_cases hm : p.hi + 1 = gFrom from_ glyph ∧ p.gl + (p.hi - p.lo) + 1 = gGlyph glyph
      · rw [show addS glyphs (l0 ++ [p]) from_ to glyph = l0 ++ [⟨p.lo, gTo glyphs from_ to glyph, p.gl⟩] by unfold addS; rw [if_neg hc]; simp [hm]]
        have := add_more glyphs from_ to glyph l0 p hl' hok (by omega) hp hm.1 hm.2
        simpa using this
      · rw [show addS glyphs (l0 ++ [p]) from_ to glyph = l0 ++ [p] ++ [⟨gFrom from_ glyph, gTo glyphs from_ to glyph, gGlyph glyph⟩] by unfold addS; rw [if_neg hc]; simp [hm]]
        have := add_new glyphs from_ to glyph l0 p hl' hok (by omega) hp hm
        simpa using this
end Go.Proofs.Ytohmjbgcmccplaa
