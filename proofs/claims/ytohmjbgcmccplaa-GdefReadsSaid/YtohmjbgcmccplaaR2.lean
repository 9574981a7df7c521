/- What the document's reader of tables of values tells. No condition. -/
import Derived.Test.YtohmjbgcmccplaaR1
namespace Go.Proofs.Ytohmjbgcmccplaa
open Go Go.Ab
set_option maxRecDepth 100000
set_option maxHeartbeats 4000000
set_option linter.unusedSimpArgs false
set_option linter.unusedVariables false

attribute [local irreducible] grdO grdP condK conO conP regO regP Again
/-- So many glyphs. -/
def NG : Nat := 65536
theorem NG_eq : NG = 65536 := rfl
theorem intR_set (T : List Int) (k : Nat) (v : Int) : (intR T).set k [.sc (.int .i64 v)] = intR (T.set k v) := by simp [intR, List.map_set]
theorem intR_rep (n : Nat) (v : Int) : List.replicate n [.sc (.int .i64 v)] = intR (List.replicate n v) := by simp [intR]
theorem set_len (T : List Int) (k : Nat) (v : Int) : (T.set k v).length = T.length := by simp
theorem one_all (k : IntKind) (n : Int) : #[Value.int k n].all (fun x => x.oneCell') 0 1 = true := by simp [Value.oneCell']
theorem one_all_b (b : Bool) : #[Value.bool b].all (fun x => x.oneCell') 0 1 = true := by simp [Value.oneCell']
theorem intR_set_at (T : List Int) (i : Nat) (v : Int) (h : i < T.length) : (intR (T.set i v)).getD i [] = [.sc (.int .i64 v)] := by simp [intR, h]
attribute [push_cast] intR_set one_all one_all_b

def initT (k : Nat) : List Int := List.replicate k (-1) ++ List.replicate (NG - k) 0
theorem initT_len {k : Nat} (h : k ≤ NG) : (initT k).length = NG := by unfold initT; simp; omega
theorem initT_set {k : Nat} (h : k < NG) : (initT k).set k (-1) = initT (k + 1) := by
  unfold initT
  rw [List.set_append, if_neg (by simp), List.length_replicate, Nat.sub_self, show NG - k = (NG - (k + 1)) + 1 by omega, List.replicate_succ, List.set_cons_zero, List.replicate_succ', List.append_assoc]
  rfl
theorem initT_zero : List.replicate 65536 [PV.sc (Value.int IntKind.i64 0)] = intR (initT 0) := by
  unfold initT
  rw [List.replicate_zero, List.nil_append, Nat.sub_zero, ← intR_rep, NG_eq]
theorem ref_NG (id : Nat) : AV.ref id 65536 = AV.ref id NG := by rw [NG_eq]
def T0 : List Int := initT NG
theorem T0_len : T0.length = NG := initT_len (Nat.le_refl _)
theorem T0_get (x : Nat) (h : x < NG) : T0.getD x 0 = -1 := by
  unfold T0 initT
  rw [Nat.sub_self, List.replicate_zero, List.append_nil]
  simp [List.getD_eq_getElem?_getD, h]
attribute [irreducible] NG initT

/-- Single glyphs, from the k-th on, q of them. -/
def tabG (b : List Int) (at_ : Int) : Nat → Nat → Int → List Int → Option (List Int)
  | 0, _, _, T => some T
  | q + 1, k, last, T => if ru2 b (at_ + 4 + 2 * k) ≤ last then none else tabG b at_ q (k + 1) (ru2 b (at_ + 4 + 2 * k)) (T.set (ru2 b (at_ + 4 + 2 * k)).toNat k)
theorem tabG_step {b : List Int} {at_ : Int} {n k : Nat} {last : Int} {T : List Int} (hk : k < n) : tabG b at_ (n - k) k last T =
    if ru2 b (at_ + 4 + 2 * k) ≤ last then none else tabG b at_ (n - (k + 1)) (k + 1) (ru2 b (at_ + 4 + 2 * k)) (T.set (ru2 b (at_ + 4 + 2 * k)).toNat k) := by
  rw [show n - k = (n - (k + 1)) + 1 by omega, tabG]
/-- Classes one by one, from the k-th on, q of them. -/
def tabC (b : List Int) (at_ first : Int) : Nat → Nat → List Int → Option (List Int)
  | 0, _, T => some T
  | q + 1, k, T => if ru2 b (at_ + 6 + 2 * k) < 0 then none else tabC b at_ first q (k + 1) (T.set (first + k).toNat (ru2 b (at_ + 6 + 2 * k)))
theorem tabC_step {b : List Int} {at_ first : Int} {n k : Nat} {T : List Int} (hk : k < n) : tabC b at_ first (n - k) k T =
    if ru2 b (at_ + 6 + 2 * k) < 0 then none else tabC b at_ first (n - (k + 1)) (k + 1) (T.set (first + k).toNat (ru2 b (at_ + 6 + 2 * k))) := by
  rw [show n - k = (n - (k + 1)) + 1 by omega, tabC]
/-- m glyphs from g on: each has the value, or, of a coverage, its number. -/
def fill (cl : Bool) (z : Int) : Nat → Int → Int → List Int → List Int
  | 0, _, _, T => T
  | m + 1, g, nx, T => fill cl z m (g + 1) (nx + 1) (T.set g.toNat (if cl then z else nx))
theorem fill_len {cl : Bool} {z : Int} : ∀ {m : Nat} {g nx : Int} {T : List Int}, (fill cl z m g nx T).length = T.length
  | 0, g, nx, T => rfl
  | m + 1, g, nx, T => by rw [fill, fill_len, List.length_set]
/-- Ranges, from the k-th on, q of them. -/
def tabR (b : List Int) (at_ : Int) (cl : Bool) : Nat → Nat → Int → Int → List Int → Option (List Int)
  | 0, _, _, _, T => some T
  | q + 1, k, last, nx, T =>
    if ru2 b (at_ + 8 + 6 * k) < 0 ∨ ru2 b (at_ + 4 + 6 * k) ≤ last ∨ ru2 b (at_ + 6 + 6 * k) < ru2 b (at_ + 4 + 6 * k) ∨ (cl = false ∧ ru2 b (at_ + 8 + 6 * k) ≠ nx) then none
    else tabR b at_ cl q (k + 1) (ru2 b (at_ + 6 + 6 * k)) (nx + (ru2 b (at_ + 6 + 6 * k) - ru2 b (at_ + 4 + 6 * k) + 1))
      (fill cl (ru2 b (at_ + 8 + 6 * k)) (ru2 b (at_ + 6 + 6 * k) - ru2 b (at_ + 4 + 6 * k) + 1).toNat (ru2 b (at_ + 4 + 6 * k)) nx T)
theorem tabR_step {b : List Int} {at_ : Int} {cl : Bool} {n k : Nat} {last nx : Int} {T : List Int} (hk : k < n) : tabR b at_ cl (n - k) k last nx T =
    if ru2 b (at_ + 8 + 6 * k) < 0 ∨ ru2 b (at_ + 4 + 6 * k) ≤ last ∨ ru2 b (at_ + 6 + 6 * k) < ru2 b (at_ + 4 + 6 * k) ∨ (cl = false ∧ ru2 b (at_ + 8 + 6 * k) ≠ nx) then none
    else tabR b at_ cl (n - (k + 1)) (k + 1) (ru2 b (at_ + 6 + 6 * k)) (nx + (ru2 b (at_ + 6 + 6 * k) - ru2 b (at_ + 4 + 6 * k) + 1))
      (fill cl (ru2 b (at_ + 8 + 6 * k)) (ru2 b (at_ + 6 + 6 * k) - ru2 b (at_ + 4 + 6 * k) + 1).toNat (ru2 b (at_ + 4 + 6 * k)) nx T) := by
  rw [show n - k = (n - (k + 1)) + 1 by omega, tabR]

/-- A table: of each glyph its value. -/
def tableS (b : List Int) (at_ : Int) (cl : Bool) : Option (List Int) :=
  if ru2 b at_ ≠ 1 ∧ ru2 b at_ ≠ 2 then none
  else if ru2 b at_ = 1 ∧ cl = true then (if ru2 b (at_ + 4) < 0 ∨ ru2 b (at_ + 2) + ru2 b (at_ + 4) > 65536 then none else tabC b at_ (ru2 b (at_ + 2)) (ru2 b (at_ + 4)).toNat 0 T0)
  else if ru2 b (at_ + 2) < 0 then none
  else if ru2 b at_ = 1 then tabG b at_ (ru2 b (at_ + 2)).toNat 0 (-1) T0 else tabR b at_ cl (ru2 b (at_ + 2)).toNat 0 (-1) 0 T0
def tabA : Option (List Int) → AV
  | some T => .tup [.p (.fro (intR T)), boolA true]
  | none => .tup [.any, boolA false]
theorem tabA_some (T : List Int) : tabA (some T) = .tup [.p (.fro (intR T)), boolA true] := rfl
theorem tabA_none : tabA none = .tup [.any, boolA false] := rfl

theorem cs_retw {P : Program} {nt nb : Nat} {cs : List Code} {res : List ResultVar} {y : AV} {Rp : AV → Prop} {env : AEnv} {h : AHeap} (h7 : env 7 = boolA false)
    (hr : retK (resA P (mkE [(6, .any), (7, boolA false)]) (mkH []) res) y) : ACs P nt 0 (.ret :: cs) (RetQ P 0 res (fun x h => x = y ∧ h = fun _ => none) Rp) env h nb := by
  refine cs_weak (ofL []) [(6, .any), (7, boolA false)] [] 0 .ofL ⟨.inl rfl, ⟨.inr (.inr ⟨?_, trivial⟩), trivial⟩⟩ trivial (cs_ret (ret_fn hr))
  rw [h7]; rfl

theorem table_1c (b : List Int) (hb : Bytes b) (hl : b.length ≤ 1000000) (at_ : Int) (ha : -1000000 ≤ at_ ∧ at_ ≤ 1000000000) (hf : ru2 b at_ = 1) (res : Option (List Int)) (hres : tableS b at_ true = res) :
    AFun Try.prog 42 [bytesA b, i64 at_, boolA true] (tabA res) := by
  have c0 := ru16_fn b hb (by omega) at_
  have c1 := ru16_fn b hb (by omega) (at_ + 2)
  have c2 := ru16_fn b hb (by omega) (at_ + 4)
  have f1 := ru2_b hb (at_ + 2)
  have f2 := ru2_b hb (at_ + 4)
  rw [hf] at c0
  refine acalls_body Try.func42 rfl Try.ntmps42 (by simp) ?_
  rw [Try.results42]
  unfold tableS at hres
  rw [if_neg (by omega), if_pos ⟨hf, rfl⟩] at hres
  repeat' ((first
    | refine cs_seq ?_
    | (refine And.intro ⟨by decide, by decide⟩ ?_)
    | refine cs_reg (by rfl) (fun K Kp hK hKp => ?_)
    | refine cs_drw mixed (by rfl) (by kernel_rfl) (fun K hK => ?_)
    | (refine hK _ _ ?_; try clear hKp; try clear hK; try clear Kp; try clear K)
    | refine cs_cond ?_
    | refine cs_ret (ret_fn ?_)
    | refine cs_scope ?_
    | refine cs_label ?_
    | refine cs_block ?_
    | refine cs_skip ?_
    | refine cs_exit ?_
    | ((first | refine grdO_dec (fun hp => ?_) (fun hp => ?_) | refine grdO_nd (fun hp => ?_) (fun hp => ?_) | refine grdO_nb (fun hp => ?_) (fun hp => ?_) | refine grdO_b (fun hp => ?_) (fun hp => ?_) | refine grdP_dec (fun hp => ?_) (fun hp => ?_) | refine grdP_nd (fun hp => ?_) (fun hp => ?_) | refine grdP_nb (fun hp => ?_) (fun hp => ?_) | refine grdP_b (fun hp => ?_) (fun hp => ?_) | refine condK_d (fun hp => ?_) (fun hp => ?_) | refine condK_nd (fun hp => ?_) (fun hp => ?_) | refine condK_nb (fun hp => ?_) (fun hp => ?_) | refine condK_b (fun hp => ?_) (fun hp => ?_)) <;> first | (exfalso; omega; done) | skip)
    | (refine regO_call rfl ?_; refine CallK.fn (c0) (by simp only [push_cast]) rfl (by simp only [push_cast, and_self]) (by simp only [push_cast, and_self]) (by simp only [push_cast, ↓reduceIte, Nat.reduceEqDiff, Nat.reduceAdd]) ?_)
    | (with_reducible refine And.intro ?_ ?_; focus (first | omega | (constructor <;> omega) | (have hbits : IntKind.i64.bits = 64 := rfl; omega) | (simp [maxLen]; done) | (simp [maxLen]; omega)))) <;> try simp (disch := omega) only [push_cast, ↓omv, ↓oas, ↓opk, ↓oal, ↓obx, ↓obd, ↓obs, ↓old, ↓ost, ↓onc, ↓obo, ↓ouo, ↓ocv, ↓omf, ↓oms, ↓osl, ↓ofa, ↓ofd, ↓oia, ↓oix, ↓oex, ↓obi, ↓ogd, ↓pmv, ↓pas, ↓ppk, ↓pal, ↓pbx, ↓pbd, ↓pbs, ↓pld, ↓pst, ↓pnc, ↓pbo, ↓puo, ↓pcv, ↓pmf, ↓pms, ↓psl, ↓pfa, ↓pfd, ↓pia, ↓pix, ↓pex, ↓pbi, ↓pgd, ↓aop_build, ↓reduceIte, Nat.reduceEqDiff, Nat.reduceAdd, Nat.reduceMul, Nat.reduceSub, Nat.reduceLT, Nat.reduceLeDiff, reduceCtorEq, Int.reduceToNat, maxLen])
  refine cs_lp (ι := Nat) (fun k => [(0, bytesA b), (1, i64 at_), (2, boolA true), (8, .ref 0 NG), (9, i64 k)]) (fun k => [(0, .arr 3 1 (intR (initT k)))]) 1 (fun k => k ≤ NG) (fun k => NG - k) 0 (by omega) ⟨ofL [(0, 2)], .ofL, ?_, ?_⟩ ?_
  · rw [ref_NG]
    try simp (disch := omega) only [push_cast, ↓omv, ↓oas, ↓opk, ↓oal, ↓obx, ↓obd, ↓obs, ↓old, ↓ost, ↓onc, ↓obo, ↓ouo, ↓ocv, ↓omf, ↓oms, ↓osl, ↓ofa, ↓ofd, ↓oia, ↓oix, ↓oex, ↓obi, ↓ogd, ↓pmv, ↓pas, ↓ppk, ↓pal, ↓pbx, ↓pbd, ↓pbs, ↓pld, ↓pst, ↓pnc, ↓pbo, ↓puo, ↓pcv, ↓pmf, ↓pms, ↓psl, ↓pfa, ↓pfd, ↓pia, ↓pix, ↓pex, ↓pbi, ↓pgd, ↓aop_build, ↓reduceIte, Nat.reduceEqDiff, Nat.reduceAdd, Nat.reduceMul, Nat.reduceSub, Nat.reduceLT, Nat.reduceLeDiff, reduceCtorEq, Int.reduceToNat, Int.natCast_zero]
  · rw [initT_zero]
    try simp (disch := omega) only [push_cast, ↓omv, ↓oas, ↓opk, ↓oal, ↓obx, ↓obd, ↓obs, ↓old, ↓ost, ↓onc, ↓obo, ↓ouo, ↓ocv, ↓omf, ↓oms, ↓osl, ↓ofa, ↓ofd, ↓oia, ↓oix, ↓oex, ↓obi, ↓ogd, ↓pmv, ↓pas, ↓ppk, ↓pal, ↓pbx, ↓pbd, ↓pbs, ↓pld, ↓pst, ↓pnc, ↓pbo, ↓puo, ↓pcv, ↓pmf, ↓pms, ↓psl, ↓pfa, ↓pfd, ↓pia, ↓pix, ↓pex, ↓pbi, ↓pgd, ↓aop_build, ↓reduceIte, Nat.reduceEqDiff, Nat.reduceAdd, Nat.reduceMul, Nat.reduceSub, Nat.reduceLT, Nat.reduceLeDiff, reduceCtorEq, Int.reduceToNat]
  intro k hk1
  have hN := NG_eq
  by_cases hk : k < NG
  · have hsz := initT_len hk1
    have hst := initT_set hk
    repeat' ((first
    | refine cs_seq ?_
    | refine cs_reg (by rfl) (fun K Kp hK hKp => ?_)
    | refine cs_drw mixed (by rfl) (by kernel_rfl) (fun K hK => ?_)
    | (refine hK _ _ ?_; try clear hKp; try clear hK; try clear Kp; try clear K)
    | refine cs_cond ?_
    | refine cs_ret (ret_fn ?_)
    | refine cs_scope ?_
    | refine cs_label ?_
    | refine cs_block ?_
    | refine cs_skip ?_
    | refine cs_exit ?_
    | ((first | refine grdO_dec (fun hp => ?_) (fun hp => ?_) | refine grdO_nd (fun hp => ?_) (fun hp => ?_) | refine grdO_nb (fun hp => ?_) (fun hp => ?_) | refine grdO_b (fun hp => ?_) (fun hp => ?_) | refine grdP_dec (fun hp => ?_) (fun hp => ?_) | refine grdP_nd (fun hp => ?_) (fun hp => ?_) | refine grdP_nb (fun hp => ?_) (fun hp => ?_) | refine grdP_b (fun hp => ?_) (fun hp => ?_) | refine condK_d (fun hp => ?_) (fun hp => ?_) | refine condK_nd (fun hp => ?_) (fun hp => ?_) | refine condK_nb (fun hp => ?_) (fun hp => ?_) | refine condK_b (fun hp => ?_) (fun hp => ?_)) <;> first | (exfalso; omega; done) | skip)
    | (with_reducible refine And.intro ?_ ?_; focus (first | omega | (constructor <;> omega) | (have hbits : IntKind.i64.bits = 64 := rfl; omega) | (simp [intR_at, hsz, hst]; done) | (simp [intR_at, hsz, hst]; omega)))) <;> try simp (disch := omega) only [push_cast, ↓omv, ↓oas, ↓opk, ↓oal, ↓obx, ↓obd, ↓obs, ↓old, ↓ost, ↓onc, ↓obo, ↓ouo, ↓ocv, ↓omf, ↓oms, ↓osl, ↓ofa, ↓ofd, ↓oia, ↓oix, ↓oex, ↓obi, ↓ogd, ↓pmv, ↓pas, ↓ppk, ↓pal, ↓pbx, ↓pbd, ↓pbs, ↓pld, ↓pst, ↓pnc, ↓pbo, ↓puo, ↓pcv, ↓pmf, ↓pms, ↓psl, ↓pfa, ↓pfd, ↓pia, ↓pix, ↓pex, ↓pbi, ↓pgd, ↓aop_build, ↓reduceIte, Nat.reduceEqDiff, Nat.reduceAdd, Nat.reduceMul, Nat.reduceSub, Nat.reduceLT, Nat.reduceLeDiff, reduceCtorEq, Int.reduceToNat, intR_at, hsz, hst])
    refine Again.intro (k + 1) (by omega) (by omega) (ofL []) .ofL ?_ ?_
    · try simp (disch := omega) only [push_cast, ↓omv, ↓oas, ↓opk, ↓oal, ↓obx, ↓obd, ↓obs, ↓old, ↓ost, ↓onc, ↓obo, ↓ouo, ↓ocv, ↓omf, ↓oms, ↓osl, ↓ofa, ↓ofd, ↓oia, ↓oix, ↓oex, ↓obi, ↓ogd, ↓pmv, ↓pas, ↓ppk, ↓pal, ↓pbx, ↓pbd, ↓pbs, ↓pld, ↓pst, ↓pnc, ↓pbo, ↓puo, ↓pcv, ↓pmf, ↓pms, ↓psl, ↓pfa, ↓pfd, ↓pia, ↓pix, ↓pex, ↓pbi, ↓pgd, ↓aop_build, ↓reduceIte, Nat.reduceEqDiff, Nat.reduceAdd, Nat.reduceMul, Nat.reduceSub, Nat.reduceLT, Nat.reduceLeDiff, reduceCtorEq, Int.reduceToNat, Int.natCast_add, Int.cast_ofNat_Int]
    · try simp (disch := omega) only [push_cast, ↓omv, ↓oas, ↓opk, ↓oal, ↓obx, ↓obd, ↓obs, ↓old, ↓ost, ↓onc, ↓obo, ↓ouo, ↓ocv, ↓omf, ↓oms, ↓osl, ↓ofa, ↓ofd, ↓oia, ↓oix, ↓oex, ↓obi, ↓ogd, ↓pmv, ↓pas, ↓ppk, ↓pal, ↓pbx, ↓pbd, ↓pbs, ↓pld, ↓pst, ↓pnc, ↓pbo, ↓puo, ↓pcv, ↓pmf, ↓pms, ↓psl, ↓pfa, ↓pfd, ↓pia, ↓pix, ↓pex, ↓pbi, ↓pgd, ↓aop_build, ↓reduceIte, Nat.reduceEqDiff, Nat.reduceAdd, Nat.reduceMul, Nat.reduceSub, Nat.reduceLT, Nat.reduceLeDiff, reduceCtorEq, Int.reduceToNat, hst]
  have hkN : k = NG := by omega
  subst hkN
  by_cases hbad : ru2 b (at_ + 4) < 0 ∨ ru2 b (at_ + 2) + ru2 b (at_ + 4) > 65536
  · rw [if_pos hbad] at hres
    subst hres
    repeat' ((first
    | refine cs_seq ?_
    | (refine cs_retw rfl ?_; try simp (disch := omega) only [push_cast, ↓omv, ↓oas, ↓opk, ↓oal, ↓obx, ↓obd, ↓obs, ↓old, ↓ost, ↓onc, ↓obo, ↓ouo, ↓ocv, ↓omf, ↓oms, ↓osl, ↓ofa, ↓ofd, ↓oia, ↓oix, ↓oex, ↓obi, ↓ogd, ↓pmv, ↓pas, ↓ppk, ↓pal, ↓pbx, ↓pbd, ↓pbs, ↓pld, ↓pst, ↓pnc, ↓pbo, ↓puo, ↓pcv, ↓pmf, ↓pms, ↓psl, ↓pfa, ↓pfd, ↓pia, ↓pix, ↓pex, ↓pbi, ↓pgd, ↓aop_build, ↓reduceIte, Nat.reduceEqDiff, Nat.reduceAdd, Nat.reduceMul, Nat.reduceSub, Nat.reduceLT, Nat.reduceLeDiff, reduceCtorEq, Int.reduceToNat])
    | refine cs_reg (by rfl) (fun K Kp hK hKp => ?_)
    | refine cs_drw mixed (by rfl) (by kernel_rfl) (fun K hK => ?_)
    | (refine hK _ _ ?_; try clear hKp; try clear hK; try clear Kp; try clear K)
    | refine cs_cond ?_
    | refine cs_ret (ret_fn ?_)
    | refine cs_scope ?_
    | refine cs_label ?_
    | refine cs_block ?_
    | refine cs_skip ?_
    | refine cs_exit ?_
    | ((first | refine grdO_dec (fun hp => ?_) (fun hp => ?_) | refine grdO_nd (fun hp => ?_) (fun hp => ?_) | refine grdO_nb (fun hp => ?_) (fun hp => ?_) | refine grdO_b (fun hp => ?_) (fun hp => ?_) | refine grdP_dec (fun hp => ?_) (fun hp => ?_) | refine grdP_nd (fun hp => ?_) (fun hp => ?_) | refine grdP_nb (fun hp => ?_) (fun hp => ?_) | refine grdP_b (fun hp => ?_) (fun hp => ?_) | refine condK_d (fun hp => ?_) (fun hp => ?_) | refine condK_nd (fun hp => ?_) (fun hp => ?_) | refine condK_nb (fun hp => ?_) (fun hp => ?_) | refine condK_b (fun hp => ?_) (fun hp => ?_)) <;> first | (exfalso; omega; done) | skip)
    | (refine regO_call rfl ?_; refine CallK.fn (c0) (by simp only [push_cast]) rfl (by simp only [push_cast, and_self]) (by simp only [push_cast, and_self]) (by simp only [push_cast, ↓reduceIte, Nat.reduceEqDiff, Nat.reduceAdd]) ?_)
    | (refine regO_call rfl ?_; refine CallK.fn (c1) (by simp only [push_cast]) rfl (by simp only [push_cast, and_self]) (by simp only [push_cast, and_self]) (by simp only [push_cast, ↓reduceIte, Nat.reduceEqDiff, Nat.reduceAdd]) ?_)
    | (refine regO_call rfl ?_; refine CallK.fn (c2) (by simp only [push_cast]) rfl (by simp only [push_cast, and_self]) (by simp only [push_cast, and_self]) (by simp only [push_cast, ↓reduceIte, Nat.reduceEqDiff, Nat.reduceAdd]) ?_)
    | (with_reducible refine And.intro ?_ ?_; focus (first | omega | (constructor <;> omega) | (have hbits : IntKind.i64.bits = 64 := rfl; omega) | (simp []; done) | (simp []; omega)))) <;> try simp (disch := omega) only [push_cast, ↓omv, ↓oas, ↓opk, ↓oal, ↓obx, ↓obd, ↓obs, ↓old, ↓ost, ↓onc, ↓obo, ↓ouo, ↓ocv, ↓omf, ↓oms, ↓osl, ↓ofa, ↓ofd, ↓oia, ↓oix, ↓oex, ↓obi, ↓ogd, ↓pmv, ↓pas, ↓ppk, ↓pal, ↓pbx, ↓pbd, ↓pbs, ↓pld, ↓pst, ↓pnc, ↓pbo, ↓puo, ↓pcv, ↓pmf, ↓pms, ↓psl, ↓pfa, ↓pfd, ↓pia, ↓pix, ↓pex, ↓pbi, ↓pgd, ↓aop_build, ↓reduceIte, Nat.reduceEqDiff, Nat.reduceAdd, Nat.reduceMul, Nat.reduceSub, Nat.reduceLT, Nat.reduceLeDiff, reduceCtorEq, Int.reduceToNat])
    all_goals exact ⟨rfl, ⟨trivial, trivial, trivial⟩⟩
  rw [if_neg hbad] at hres
  have hfirst : 0 ≤ ru2 b (at_ + 2) := by
    by_cases h0 : 0 ≤ ru2 b (at_ + 2)
    · exact h0
    · have : ¬ (0 ≤ at_ ∧ at_ + 6 ≤ b.length) := fun hh => by
        have e : ru2 b (at_ + 2) = nm b (at_ + 2) 2 := by unfold ru2 rd nm; rw [if_pos (by omega)]; rfl
        have := nm2 hb (a := at_ + 2) (by omega) (by omega)
        omega
      have h7 : 0 ≤ at_ := by
        unfold ru2 rd at hf
        split at hf
        · omega
        · simp at hf
      have : ru2 b (at_ + 4) = -1 := by unfold ru2 rd; rw [if_neg (by omega)]; rfl
      omega
  obtain ⟨n, hn⟩ : ∃ n : Nat, ru2 b (at_ + 4) = n := ⟨(ru2 b (at_ + 4)).toNat, by omega⟩
  rw [hn] at hres hbad c2
  rw [Int.toNat_natCast] at hres
  generalize ru2 b (at_ + 2) = first at *
  repeat' ((first
    | refine cs_seq ?_
    | refine cs_reg (by rfl) (fun K Kp hK hKp => ?_)
    | refine cs_drw mixed (by rfl) (by kernel_rfl) (fun K hK => ?_)
    | (refine hK _ _ ?_; try clear hKp; try clear hK; try clear Kp; try clear K)
    | refine cs_cond ?_
    | refine cs_ret (ret_fn ?_)
    | refine cs_scope ?_
    | refine cs_label ?_
    | refine cs_block ?_
    | refine cs_skip ?_
    | refine cs_exit ?_
    | ((first | refine grdO_dec (fun hp => ?_) (fun hp => ?_) | refine grdO_nd (fun hp => ?_) (fun hp => ?_) | refine grdO_nb (fun hp => ?_) (fun hp => ?_) | refine grdO_b (fun hp => ?_) (fun hp => ?_) | refine grdP_dec (fun hp => ?_) (fun hp => ?_) | refine grdP_nd (fun hp => ?_) (fun hp => ?_) | refine grdP_nb (fun hp => ?_) (fun hp => ?_) | refine grdP_b (fun hp => ?_) (fun hp => ?_) | refine condK_d (fun hp => ?_) (fun hp => ?_) | refine condK_nd (fun hp => ?_) (fun hp => ?_) | refine condK_nb (fun hp => ?_) (fun hp => ?_) | refine condK_b (fun hp => ?_) (fun hp => ?_)) <;> first | (exfalso; omega; done) | skip)
    | (refine regO_call rfl ?_; refine CallK.fn (c0) (by simp only [push_cast]) rfl (by simp only [push_cast, and_self]) (by simp only [push_cast, and_self]) (by simp only [push_cast, ↓reduceIte, Nat.reduceEqDiff, Nat.reduceAdd]) ?_)
    | (refine regO_call rfl ?_; refine CallK.fn (c1) (by simp only [push_cast]) rfl (by simp only [push_cast, and_self]) (by simp only [push_cast, and_self]) (by simp only [push_cast, ↓reduceIte, Nat.reduceEqDiff, Nat.reduceAdd]) ?_)
    | (refine regO_call rfl ?_; refine CallK.fn (c2) (by simp only [push_cast]) rfl (by simp only [push_cast, and_self]) (by simp only [push_cast, and_self]) (by simp only [push_cast, ↓reduceIte, Nat.reduceEqDiff, Nat.reduceAdd]) ?_)
    | (with_reducible refine And.intro ?_ ?_; focus (first | omega | (constructor <;> omega) | (have hbits : IntKind.i64.bits = 64 := rfl; omega) | (simp []; done) | (simp []; omega)))) <;> try simp (disch := omega) only [push_cast, ↓omv, ↓oas, ↓opk, ↓oal, ↓obx, ↓obd, ↓obs, ↓old, ↓ost, ↓onc, ↓obo, ↓ouo, ↓ocv, ↓omf, ↓oms, ↓osl, ↓ofa, ↓ofd, ↓oia, ↓oix, ↓oex, ↓obi, ↓ogd, ↓pmv, ↓pas, ↓ppk, ↓pal, ↓pbx, ↓pbd, ↓pbs, ↓pld, ↓pst, ↓pnc, ↓pbo, ↓puo, ↓pcv, ↓pmf, ↓pms, ↓psl, ↓pfa, ↓pfd, ↓pia, ↓pix, ↓pex, ↓pbi, ↓pgd, ↓aop_build, ↓reduceIte, Nat.reduceEqDiff, Nat.reduceAdd, Nat.reduceMul, Nat.reduceSub, Nat.reduceLT, Nat.reduceLeDiff, reduceCtorEq, Int.reduceToNat])
  refine cs_lp (ι := Nat × List Int) (fun q => [(0, bytesA b), (1, i64 at_), (8, .ref 0 NG), (11, i64 n), (14, i64 first), (15, i64 q.1)]) (fun q => [(0, .arr 3 1 (intR q.2))]) 1 (fun q => q.1 ≤ n ∧ q.2.length = NG ∧ tabC b at_ first (n - q.1) q.1 q.2 = res) (fun q => n - q.1) (0, T0)
    ⟨by simp, T0_len, by simpa using hres⟩ ⟨ofL [], .ofL, ?_, ?_⟩ ?_
  · try simp (disch := omega) only [push_cast, ↓omv, ↓oas, ↓opk, ↓oal, ↓obx, ↓obd, ↓obs, ↓old, ↓ost, ↓onc, ↓obo, ↓ouo, ↓ocv, ↓omf, ↓oms, ↓osl, ↓ofa, ↓ofd, ↓oia, ↓oix, ↓oex, ↓obi, ↓ogd, ↓pmv, ↓pas, ↓ppk, ↓pal, ↓pbx, ↓pbd, ↓pbs, ↓pld, ↓pst, ↓pnc, ↓pbo, ↓puo, ↓pcv, ↓pmf, ↓pms, ↓psl, ↓pfa, ↓pfd, ↓pia, ↓pix, ↓pex, ↓pbi, ↓pgd, ↓aop_build, ↓reduceIte, Nat.reduceEqDiff, Nat.reduceAdd, Nat.reduceMul, Nat.reduceSub, Nat.reduceLT, Nat.reduceLeDiff, reduceCtorEq, Int.reduceToNat, Int.natCast_zero]
  · try simp (disch := omega) only [push_cast, ↓omv, ↓oas, ↓opk, ↓oal, ↓obx, ↓obd, ↓obs, ↓old, ↓ost, ↓onc, ↓obo, ↓ouo, ↓ocv, ↓omf, ↓oms, ↓osl, ↓ofa, ↓ofd, ↓oia, ↓oix, ↓oex, ↓obi, ↓ogd, ↓pmv, ↓pas, ↓ppk, ↓pal, ↓pbx, ↓pbd, ↓pbs, ↓pld, ↓pst, ↓pnc, ↓pbo, ↓puo, ↓pcv, ↓pmf, ↓pms, ↓psl, ↓pfa, ↓pfd, ↓pia, ↓pix, ↓pex, ↓pbi, ↓pgd, ↓aop_build, ↓reduceIte, Nat.reduceEqDiff, Nat.reduceAdd, Nat.reduceMul, Nat.reduceSub, Nat.reduceLT, Nat.reduceLeDiff, reduceCtorEq, Int.reduceToNat, T0]
  rintro ⟨k, T⟩ ⟨hk1, hT, hk4⟩
  simp only [] at hk1 hT hk4
  by_cases hk : k < n
  · have c3 := ru16_fn b hb (by omega) (at_ + 6 + 2 * k)
    have f3 := ru2_b hb (at_ + 6 + 2 * k)
    rw [tabC_step hk] at hk4
    repeat' ((first
    | refine cs_seq ?_
    | refine cs_reg (by rfl) (fun K Kp hK hKp => ?_)
    | refine cs_drw mixed (by rfl) (by kernel_rfl) (fun K hK => ?_)
    | (refine hK _ _ ?_; try clear hKp; try clear hK; try clear Kp; try clear K)
    | refine cs_cond ?_
    | refine cs_ret (ret_fn ?_)
    | refine cs_scope ?_
    | refine cs_label ?_
    | refine cs_block ?_
    | refine cs_skip ?_
    | refine cs_exit ?_
    | ((first | refine grdO_dec (fun hp => ?_) (fun hp => ?_) | refine grdO_nd (fun hp => ?_) (fun hp => ?_) | refine grdO_nb (fun hp => ?_) (fun hp => ?_) | refine grdO_b (fun hp => ?_) (fun hp => ?_) | refine grdP_dec (fun hp => ?_) (fun hp => ?_) | refine grdP_nd (fun hp => ?_) (fun hp => ?_) | refine grdP_nb (fun hp => ?_) (fun hp => ?_) | refine grdP_b (fun hp => ?_) (fun hp => ?_) | refine condK_d (fun hp => ?_) (fun hp => ?_) | refine condK_nd (fun hp => ?_) (fun hp => ?_) | refine condK_nb (fun hp => ?_) (fun hp => ?_) | refine condK_b (fun hp => ?_) (fun hp => ?_)) <;> first | (exfalso; omega; done) | skip)
    | (refine regO_call rfl ?_; refine CallK.fn (c3) (by simp only [push_cast]) rfl (by simp only [push_cast, and_self]) (by simp only [push_cast, and_self]) (by simp only [push_cast, ↓reduceIte, Nat.reduceEqDiff, Nat.reduceAdd]) ?_)
    | (with_reducible refine And.intro ?_ ?_; focus (first | omega | (constructor <;> omega) | (have hbits : IntKind.i64.bits = 64 := rfl; omega) | (simp [intR_at, hT]; done) | (simp [intR_at, hT]; omega)))) <;> try simp (disch := omega) only [push_cast, ↓omv, ↓oas, ↓opk, ↓oal, ↓obx, ↓obd, ↓obs, ↓old, ↓ost, ↓onc, ↓obo, ↓ouo, ↓ocv, ↓omf, ↓oms, ↓osl, ↓ofa, ↓ofd, ↓oia, ↓oix, ↓oex, ↓obi, ↓ogd, ↓pmv, ↓pas, ↓ppk, ↓pal, ↓pbx, ↓pbd, ↓pbs, ↓pld, ↓pst, ↓pnc, ↓pbo, ↓puo, ↓pcv, ↓pmf, ↓pms, ↓psl, ↓pfa, ↓pfd, ↓pia, ↓pix, ↓pex, ↓pbi, ↓pgd, ↓aop_build, ↓reduceIte, Nat.reduceEqDiff, Nat.reduceAdd, Nat.reduceMul, Nat.reduceSub, Nat.reduceLT, Nat.reduceLeDiff, reduceCtorEq, Int.reduceToNat, intR_at, hT])
    · rw [if_pos (by omega)] at hk4
      subst hk4
      refine cs_weak (ofL []) [(6, .any), (7, boolA false)] [] 0 .ofL ?_ trivial ?_
      · try simp (disch := omega) only [push_cast, ↓omv, ↓oas, ↓opk, ↓oal, ↓obx, ↓obd, ↓obs, ↓old, ↓ost, ↓onc, ↓obo, ↓ouo, ↓ocv, ↓omf, ↓oms, ↓osl, ↓ofa, ↓ofd, ↓oia, ↓oix, ↓oex, ↓obi, ↓ogd, ↓pmv, ↓pas, ↓ppk, ↓pal, ↓pbx, ↓pbd, ↓pbs, ↓pld, ↓pst, ↓pnc, ↓pbo, ↓puo, ↓pcv, ↓pmf, ↓pms, ↓psl, ↓pfa, ↓pfd, ↓pia, ↓pix, ↓pex, ↓pbi, ↓pgd, ↓aop_build, ↓reduceIte, Nat.reduceEqDiff, Nat.reduceAdd, Nat.reduceMul, Nat.reduceSub, Nat.reduceLT, Nat.reduceLeDiff, reduceCtorEq, Int.reduceToNat]
      refine cs_ret ?_
      try simp (disch := omega) only [push_cast, ↓omv, ↓oas, ↓opk, ↓oal, ↓obx, ↓obd, ↓obs, ↓old, ↓ost, ↓onc, ↓obo, ↓ouo, ↓ocv, ↓omf, ↓oms, ↓osl, ↓ofa, ↓ofd, ↓oia, ↓oix, ↓oex, ↓obi, ↓ogd, ↓pmv, ↓pas, ↓ppk, ↓pal, ↓pbx, ↓pbd, ↓pbs, ↓pld, ↓pst, ↓pnc, ↓pbo, ↓puo, ↓pcv, ↓pmf, ↓pms, ↓psl, ↓pfa, ↓pfd, ↓pia, ↓pix, ↓pex, ↓pbi, ↓pgd, ↓aop_build, ↓reduceIte, Nat.reduceEqDiff, Nat.reduceAdd, Nat.reduceMul, Nat.reduceSub, Nat.reduceLT, Nat.reduceLeDiff, reduceCtorEq, Int.reduceToNat]
      refine ret_fn ?_
      exact ⟨rfl, ⟨trivial, trivial, trivial⟩⟩
    · rw [if_neg (by omega)] at hk4
      refine Again.intro (k + 1, T.set (first + k).toNat (ru2 b (at_ + 6 + 2 * k))) ⟨by simp only []; omega, by simp only [List.length_set]; exact hT, hk4⟩ (by simp only []; omega) (ofL []) .ofL ?_ ?_
      · try simp (disch := omega) only [push_cast, ↓omv, ↓oas, ↓opk, ↓oal, ↓obx, ↓obd, ↓obs, ↓old, ↓ost, ↓onc, ↓obo, ↓ouo, ↓ocv, ↓omf, ↓oms, ↓osl, ↓ofa, ↓ofd, ↓oia, ↓oix, ↓oex, ↓obi, ↓ogd, ↓pmv, ↓pas, ↓ppk, ↓pal, ↓pbx, ↓pbd, ↓pbs, ↓pld, ↓pst, ↓pnc, ↓pbo, ↓puo, ↓pcv, ↓pmf, ↓pms, ↓psl, ↓pfa, ↓pfd, ↓pia, ↓pix, ↓pex, ↓pbi, ↓pgd, ↓aop_build, ↓reduceIte, Nat.reduceEqDiff, Nat.reduceAdd, Nat.reduceMul, Nat.reduceSub, Nat.reduceLT, Nat.reduceLeDiff, reduceCtorEq, Int.reduceToNat, Int.natCast_add, Int.cast_ofNat_Int]
      · try simp (disch := omega) only [push_cast, ↓omv, ↓oas, ↓opk, ↓oal, ↓obx, ↓obd, ↓obs, ↓old, ↓ost, ↓onc, ↓obo, ↓ouo, ↓ocv, ↓omf, ↓oms, ↓osl, ↓ofa, ↓ofd, ↓oia, ↓oix, ↓oex, ↓obi, ↓ogd, ↓pmv, ↓pas, ↓ppk, ↓pal, ↓pbx, ↓pbd, ↓pbs, ↓pld, ↓pst, ↓pnc, ↓pbo, ↓puo, ↓pcv, ↓pmf, ↓pms, ↓psl, ↓pfa, ↓pfd, ↓pia, ↓pix, ↓pex, ↓pbi, ↓pgd, ↓aop_build, ↓reduceIte, Nat.reduceEqDiff, Nat.reduceAdd, Nat.reduceMul, Nat.reduceSub, Nat.reduceLT, Nat.reduceLeDiff, reduceCtorEq, Int.reduceToNat, intR_at, hT]
  · have hkn : k = n := by omega
    subst hkn
    rw [Nat.sub_self, tabC] at hk4
    subst hk4
    repeat' ((first
    | refine cs_seq ?_
    | (refine cs_freeze 0 rfl ?_; refine cs_frozen 6 rfl rfl (by rw [intR_len]; exact hT) ?_; refine cs_ret (ret_fn ?_); try simp (disch := omega) only [push_cast, ↓omv, ↓oas, ↓opk, ↓oal, ↓obx, ↓obd, ↓obs, ↓old, ↓ost, ↓onc, ↓obo, ↓ouo, ↓ocv, ↓omf, ↓oms, ↓osl, ↓ofa, ↓ofd, ↓oia, ↓oix, ↓oex, ↓obi, ↓ogd, ↓pmv, ↓pas, ↓ppk, ↓pal, ↓pbx, ↓pbd, ↓pbs, ↓pld, ↓pst, ↓pnc, ↓pbo, ↓puo, ↓pcv, ↓pmf, ↓pms, ↓psl, ↓pfa, ↓pfd, ↓pia, ↓pix, ↓pex, ↓pbi, ↓pgd, ↓aop_build, ↓reduceIte, Nat.reduceEqDiff, Nat.reduceAdd, Nat.reduceMul, Nat.reduceSub, Nat.reduceLT, Nat.reduceLeDiff, reduceCtorEq, Int.reduceToNat])
    | refine cs_reg (by rfl) (fun K Kp hK hKp => ?_)
    | refine cs_drw mixed (by rfl) (by kernel_rfl) (fun K hK => ?_)
    | (refine hK _ _ ?_; try clear hKp; try clear hK; try clear Kp; try clear K)
    | refine cs_cond ?_
    | refine cs_ret (ret_fn ?_)
    | refine cs_scope ?_
    | refine cs_label ?_
    | refine cs_block ?_
    | refine cs_skip ?_
    | refine cs_exit ?_
    | ((first | refine grdO_dec (fun hp => ?_) (fun hp => ?_) | refine grdO_nd (fun hp => ?_) (fun hp => ?_) | refine grdO_nb (fun hp => ?_) (fun hp => ?_) | refine grdO_b (fun hp => ?_) (fun hp => ?_) | refine grdP_dec (fun hp => ?_) (fun hp => ?_) | refine grdP_nd (fun hp => ?_) (fun hp => ?_) | refine grdP_nb (fun hp => ?_) (fun hp => ?_) | refine grdP_b (fun hp => ?_) (fun hp => ?_) | refine condK_d (fun hp => ?_) (fun hp => ?_) | refine condK_nd (fun hp => ?_) (fun hp => ?_) | refine condK_nb (fun hp => ?_) (fun hp => ?_) | refine condK_b (fun hp => ?_) (fun hp => ?_)) <;> first | (exfalso; omega; done) | skip)
    | (with_reducible refine And.intro ?_ ?_; focus (first | omega | (constructor <;> omega) | (have hbits : IntKind.i64.bits = 64 := rfl; omega) | (simp []; done) | (simp []; omega)))) <;> try simp (disch := omega) only [push_cast, ↓omv, ↓oas, ↓opk, ↓oal, ↓obx, ↓obd, ↓obs, ↓old, ↓ost, ↓onc, ↓obo, ↓ouo, ↓ocv, ↓omf, ↓oms, ↓osl, ↓ofa, ↓ofd, ↓oia, ↓oix, ↓oex, ↓obi, ↓ogd, ↓pmv, ↓pas, ↓ppk, ↓pal, ↓pbx, ↓pbd, ↓pbs, ↓pld, ↓pst, ↓pnc, ↓pbo, ↓puo, ↓pcv, ↓pmf, ↓pms, ↓psl, ↓pfa, ↓pfd, ↓pia, ↓pix, ↓pex, ↓pbi, ↓pgd, ↓aop_build, ↓reduceIte, Nat.reduceEqDiff, Nat.reduceAdd, Nat.reduceMul, Nat.reduceSub, Nat.reduceLT, Nat.reduceLeDiff, reduceCtorEq, Int.reduceToNat])
    exact ⟨rfl, ⟨trivial, trivial, trivial⟩⟩
end Go.Proofs.Ytohmjbgcmccplaa
