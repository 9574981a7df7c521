/- The law on bytes behind: it tells true. No condition. -/
import Derived.Test.YtohmjbgcmccplaaC26
import Derived.Test.YtohmjbgcmccplaaL1
import Derived.Test.YtohmjbgcmccplaaL2
namespace Go.Proofs.Ytohmjbgcmccplaa
open Go Go.Ab
set_option maxRecDepth 100000
set_option maxHeartbeats 4000000
set_option linter.unusedSimpArgs false
set_option linter.unusedVariables false

theorem cl1L_len {b : List Int} {at_ first : Int} : ∀ {q k : Nat} {l : List Cls}, (cl1L b at_ first q k l).length ≤ l.length + q
  | 0, k, l => by simp [cl1L]
  | q + 1, k, l => by
    rw [cl1L]
    have h1 := cl1L_len (b := b) (at_ := at_) (first := first) (q := q) (k := k + 1) (l := clsdS l ⟨first + k, first + k, nm b (at_ + 4 + 2 + k * 2) 2⟩)
    have h2 := clsdS_len l ⟨first + k, first + k, nm b (at_ + 4 + 2 + k * 2) 2⟩
    omega
theorem foldl_len : ∀ (l out : List Cls), (l.foldl clsdS out).length ≤ out.length + l.length
  | [], out => by simp
  | x :: l, out => by
    have h1 := foldl_len l (clsdS out x)
    have h2 := clsdS_len out x
    simp only [List.foldl_cons, List.length_cons]
    omega
theorem glyL_len {b : List Int} {at_ : Int} : ∀ {q k : Nat} {last : Int} {l l' : List Spn}, glyL b at_ q k last l = some l' → l'.length ≤ l.length + q
  | 0, k, last, l, l', h => by simp [glyL] at h; subst h; omega
  | q + 1, k, last, l, l', h => by
    rw [glyL] at h
    split at h
    · cases h
    · have h1 := glyL_len h
      have h2 := joinS_len l ⟨nm b (at_ + 4 + k * 2) 2, nm b (at_ + 4 + k * 2) 2⟩
      omega
theorem ranL_len : ∀ {t : List Cls} {i : Int} {l l' : List Spn}, ranL t i l = some l' → l'.length ≤ l.length + t.length
  | [], i, l, l', h => by simp [ranL] at h; subst h; simp
  | x :: t, i, l, l', h => by
    rw [ranL] at h
    split at h
    · cases h
    · have h1 := ranL_len h
      have h2 := joinS_len l ⟨x.lo, x.hi⟩
      simp only [List.length_cons]
      omega
theorem covS_len {b : List Int} (hb : Bytes b) {at_ : Int} {l : List Spn} (h : covS b at_ = some l) : l.length ≤ 65535 := by
  unfold covS at h
  split at h
  · unfold glyS at h
    split at h
    · cases h
    · rename_i v hv
      have h2 := rd2 hb (at_ + 2)
      rw [hv] at h2
      simp only [Option.getD_some] at h2
      split at h
      · have := glyL_len h
        simp only [List.length_nil] at this
        omega
      · cases h
  · split at h
    · unfold ranS at h
      split at h
      · cases h
      · rename_i t ht
        have := ranL_len h
        have := (triS_ok hb ht).2
        simp only [List.length_nil] at *
        omega
    · cases h
theorem clsAt_len {b : List Int} (hb : Bytes b) {at_ place : Int} {l : List Cls} (h : clsAt b at_ place = some l) : l.length ≤ 65535 := by
  unfold clsAt at h
  split at h
  · cases h
  · rename_i o ho
    split at h
    · injection h with h; subst h; simp
    · unfold clsS at h
      split at h
      · unfold cl1S at h
        split at h
        · cases h
        · rename_i v hv
          have h2 := rd2 hb (at_ + o + 4)
          rw [hv] at h2
          simp only [Option.getD_some] at h2
          split at h
          · injection h with h
            subst h
            have := cl1L_len (b := b) (at_ := at_ + o) (first := (rd b (at_ + o + 2) 2).getD 0) (q := v.toNat) (k := 0) (l := [])
            simp only [List.length_nil] at this
            omega
          · cases h
      · split at h
        · unfold cl2S at h
          split at h
          · cases h
          · rename_i t ht
            injection h with h
            subst h
            have := foldl_len t []
            have := (triS_ok hb ht).2
            simp only [List.length_nil] at *
            omega
        · cases h
theorem setL_len {b : List Int} (hb : Bytes b) {a : Int} : ∀ {q k : Nat} {l l' : List (List Spn)}, (∀ s ∈ l, s.length ≤ 65535) → setL b a q k l = some l' → l'.length = l.length + q ∧ ∀ s ∈ l', s.length ≤ 65535
  | 0, k, l, l', hl, h => by simp [setL] at h; subst h; exact ⟨rfl, hl⟩
  | q + 1, k, l, l', hl, h => by
    rw [setL] at h
    split at h
    · cases h
    · split at h
      · cases h
      · rename_i s hs
        have := covS_len hb hs
        obtain ⟨h1, h2⟩ := setL_len hb (fun x hx => by
          rw [List.mem_append, List.mem_singleton] at hx
          rcases hx with hx | rfl
          · exact hl x hx
          · exact this) h
        exact ⟨by rw [h1]; simp; omega, h2⟩
theorem readS_len {b : List Int} (hb : Bytes b) {at_ : Int} {d : Gd} (h : readS b at_ = some d) : GdLen d := by
  unfold readS at h
  split at h
  · cases h
  · split at h
    · cases h
    · split at h
      · cases h
      · obtain ⟨q1, q2, q3⟩ := bothS_some h
        have h1 := clsAt_len hb q1
        have h2 := clsAt_len hb q2
        have h3 : d.sets.length ≤ 65535 ∧ ∀ s ∈ d.sets, s.length ≤ 65535 := by
          split at q3
          · unfold setsS at q3
            split at q3
            · cases q3
            · rename_i o ho
              split at q3
              · injection q3 with q3; rw [← q3]; simp
              · split at q3
                · cases q3
                · rename_i hgood
                  obtain ⟨h4, h5⟩ := setL_len hb (by simp) q3
                  refine ⟨?_, h5⟩
                  rw [h4]; simp only [List.length_nil]; omega
          · injection q3 with q3; rw [← q3]; simp
        exact ⟨by omega, by omega, by omega, fun s hs => by have := h3.2 s hs; omega⟩

theorem byteR_app (a b : List Int) : byteR a ++ byteR b = byteR (a ++ b) := by simp [byteR]

theorem behind_fn (b m : List Int) (hl : b.length ≤ 9223372036854775807) (hml : m.length ≤ 9223372036854775807) (hb : Bytes b) (hm : Bytes m) (glyphs : Int) (hg : I64 glyphs) :
    AFun Try.prog 6 [bytesA b, bytesA m, i64 glyphs] (boolA true) := by
  have c0 := alive_fn
  obtain ⟨y1, y2⟩ := hg
  refine acalls_body Try.func6 rfl Try.ntmps6 (by simp) ?_
  rw [Try.results6]
  by_cases h1 : b.length ≤ 1000
  case neg => repeat' ((first
    | refine cs_seq ?_
    | refine cs_reg (by rfl) (fun K Kp hK hKp => ?_)
    | refine cs_drw mixed (by rfl) (by kernel_rfl) (fun K hK => ?_)
    | (refine hK _ _ ?_; try clear hKp; try clear hK; try clear Kp; try clear K)
    | refine cs_cond ?_
    | refine cs_ret (ret_fn ?_)
    | refine cs_scope ?_
    | refine cs_label ?_
    | refine cs_block ?_
    | refine cs_skip ?_
    | refine cs_exit ?_
    | (refine grdO_dec (fun hp => ?_) (fun hp => ?_) <;> first | (exfalso; omega; done) | skip)
    | (refine grdO_nd (fun hp => ?_) (fun hp => ?_) <;> first | (exfalso; omega; done) | skip)
    | (refine grdO_nb (fun hp => ?_) (fun hp => ?_) <;> first | (exfalso; omega; done) | skip)
    | (refine grdO_b (fun hp => ?_) (fun hp => ?_) <;> first | (exfalso; omega; done) | skip)
    | (refine grdP_dec (fun hp => ?_) (fun hp => ?_) <;> first | (exfalso; omega; done) | skip)
    | (refine grdP_nd (fun hp => ?_) (fun hp => ?_) <;> first | (exfalso; omega; done) | skip)
    | (refine grdP_nb (fun hp => ?_) (fun hp => ?_) <;> first | (exfalso; omega; done) | skip)
    | (refine grdP_b (fun hp => ?_) (fun hp => ?_) <;> first | (exfalso; omega; done) | skip)
    | (refine condK_d (fun hp => ?_) (fun hp => ?_) <;> first | (exfalso; omega; done) | skip)
    | (refine condK_nd (fun hp => ?_) (fun hp => ?_) <;> first | (exfalso; omega; done) | skip)
    | (refine condK_nb (fun hp => ?_) (fun hp => ?_) <;> first | (exfalso; omega; done) | skip)
    | (refine condK_b (fun hp => ?_) (fun hp => ?_) <;> first | (exfalso; omega; done) | skip)
    | (refine regO_call rfl ?_; refine CallK.fn (c0) (by simp only [push_cast]) rfl (by simp only [push_cast, and_self]) (by simp only [push_cast, and_self]) (by simp only [push_cast, ↓reduceIte, Nat.reduceEqDiff, Nat.reduceAdd]) ?_)
    | (with_reducible refine And.intro ?_ ?_; focus (first | omega | (constructor <;> omega) | (have hbits : IntKind.i64.bits = 64 := rfl; omega) | (simp []; done) | (simp []; omega)))) <;> try simp (disch := omega) only [push_cast, ↓regO_move, ↓regO_assign, ↓regO_pick, ↓regO_alloc, ↓regO_box, ↓regO_build, ↓regO_buildSlice, ↓regO_load, ↓regO_store, ↓regO_nilCheck, ↓regO_binOp, ↓regO_unOp, ↓regO_convert, ↓regO_makeFunc, ↓regO_makeSlice, ↓regO_slice, ↓regO_fieldAddr, ↓regO_field, ↓regO_indexAddr, ↓regO_index, ↓regO_extract, ↓regO_builtin, ↓regO_grd, ↓regP_move, ↓regP_assign, ↓regP_pick, ↓regP_alloc, ↓regP_box, ↓regP_build, ↓regP_buildSlice, ↓regP_load, ↓regP_store, ↓regP_nilCheck, ↓regP_binOp, ↓regP_unOp, ↓regP_convert, ↓regP_makeFunc, ↓regP_makeSlice, ↓regP_slice, ↓regP_fieldAddr, ↓regP_field, ↓regP_indexAddr, ↓regP_index, ↓regP_extract, ↓regP_builtin, ↓regP_grd, ↓aop_build, ↓reduceIte, List.getD_cons_zero, List.getD_cons_succ, List.getD_nil, implies_true, Nat.reduceEqDiff, Nat.reduceAdd, Nat.reduceMul, Nat.reduceSub, Nat.reduceLT, Nat.reduceLeDiff, reduceCtorEq, decide_true, decide_false, and_self, and_true, true_and, false_and, or_true, true_or, false_or, or_false, Int.ofNat_eq_natCast, ge_iff_le, gt_iff_lt, Int.toNat_natCast, Bool.not_true, Bool.true_and, Bool.and_true, Bool.not_false, Int.reduceToNat, w_i64, w_i32])
  by_cases h2 : m.length ≤ 300
  case neg => repeat' ((first
    | refine cs_seq ?_
    | refine cs_reg (by rfl) (fun K Kp hK hKp => ?_)
    | refine cs_drw mixed (by rfl) (by kernel_rfl) (fun K hK => ?_)
    | (refine hK _ _ ?_; try clear hKp; try clear hK; try clear Kp; try clear K)
    | refine cs_cond ?_
    | refine cs_ret (ret_fn ?_)
    | refine cs_scope ?_
    | refine cs_label ?_
    | refine cs_block ?_
    | refine cs_skip ?_
    | refine cs_exit ?_
    | (refine grdO_dec (fun hp => ?_) (fun hp => ?_) <;> first | (exfalso; omega; done) | skip)
    | (refine grdO_nd (fun hp => ?_) (fun hp => ?_) <;> first | (exfalso; omega; done) | skip)
    | (refine grdO_nb (fun hp => ?_) (fun hp => ?_) <;> first | (exfalso; omega; done) | skip)
    | (refine grdO_b (fun hp => ?_) (fun hp => ?_) <;> first | (exfalso; omega; done) | skip)
    | (refine grdP_dec (fun hp => ?_) (fun hp => ?_) <;> first | (exfalso; omega; done) | skip)
    | (refine grdP_nd (fun hp => ?_) (fun hp => ?_) <;> first | (exfalso; omega; done) | skip)
    | (refine grdP_nb (fun hp => ?_) (fun hp => ?_) <;> first | (exfalso; omega; done) | skip)
    | (refine grdP_b (fun hp => ?_) (fun hp => ?_) <;> first | (exfalso; omega; done) | skip)
    | (refine condK_d (fun hp => ?_) (fun hp => ?_) <;> first | (exfalso; omega; done) | skip)
    | (refine condK_nd (fun hp => ?_) (fun hp => ?_) <;> first | (exfalso; omega; done) | skip)
    | (refine condK_nb (fun hp => ?_) (fun hp => ?_) <;> first | (exfalso; omega; done) | skip)
    | (refine condK_b (fun hp => ?_) (fun hp => ?_) <;> first | (exfalso; omega; done) | skip)
    | (refine regO_call rfl ?_; refine CallK.fn (c0) (by simp only [push_cast]) rfl (by simp only [push_cast, and_self]) (by simp only [push_cast, and_self]) (by simp only [push_cast, ↓reduceIte, Nat.reduceEqDiff, Nat.reduceAdd]) ?_)
    | (with_reducible refine And.intro ?_ ?_; focus (first | omega | (constructor <;> omega) | (have hbits : IntKind.i64.bits = 64 := rfl; omega) | (simp []; done) | (simp []; omega)))) <;> try simp (disch := omega) only [push_cast, ↓regO_move, ↓regO_assign, ↓regO_pick, ↓regO_alloc, ↓regO_box, ↓regO_build, ↓regO_buildSlice, ↓regO_load, ↓regO_store, ↓regO_nilCheck, ↓regO_binOp, ↓regO_unOp, ↓regO_convert, ↓regO_makeFunc, ↓regO_makeSlice, ↓regO_slice, ↓regO_fieldAddr, ↓regO_field, ↓regO_indexAddr, ↓regO_index, ↓regO_extract, ↓regO_builtin, ↓regO_grd, ↓regP_move, ↓regP_assign, ↓regP_pick, ↓regP_alloc, ↓regP_box, ↓regP_build, ↓regP_buildSlice, ↓regP_load, ↓regP_store, ↓regP_nilCheck, ↓regP_binOp, ↓regP_unOp, ↓regP_convert, ↓regP_makeFunc, ↓regP_makeSlice, ↓regP_slice, ↓regP_fieldAddr, ↓regP_field, ↓regP_indexAddr, ↓regP_index, ↓regP_extract, ↓regP_builtin, ↓regP_grd, ↓aop_build, ↓reduceIte, List.getD_cons_zero, List.getD_cons_succ, List.getD_nil, implies_true, Nat.reduceEqDiff, Nat.reduceAdd, Nat.reduceMul, Nat.reduceSub, Nat.reduceLT, Nat.reduceLeDiff, reduceCtorEq, decide_true, decide_false, and_self, and_true, true_and, false_and, or_true, true_or, false_or, or_false, Int.ofNat_eq_natCast, ge_iff_le, gt_iff_lt, Int.toNat_natCast, Bool.not_true, Bool.true_and, Bool.and_true, Bool.not_false, Int.reduceToNat, w_i64, w_i32])
  have hbm : Bytes (b ++ m) := fun x hx => by
    rcases List.mem_append.1 hx with hx | hx
    · exact hb x hx
    · exact hm x hx
  have hlm : (b ++ m).length ≤ 1000000 := by rw [List.length_append]; omega
  obtain ⟨d, ok, e, is, r1, r2, hok⟩ : ∃ (d : Gd) (ok : Bool) (e : Gd) (is : Bool), AFun Try.prog 8 [bytesA b, i64 0] (.tup [.agg [.p (.fro (classR d.cls)), .p (.fro (classR d.att)), .p (.fro (setR d.sets))], boolA ok]) ∧
      AFun Try.prog 8 [bytesA (b ++ m), i64 0] (.tup [.agg [.p (.fro (classR e.cls)), .p (.fro (classR e.att)), .p (.fro (setR e.sets))], boolA is]) ∧ (ok = true → is = true ∧ e = d ∧ GdLen d) := by
    have q1 := gdefRead_fn b hb (by omega) 0 (by omega)
    have q2 := gdefRead_fn (b ++ m) hbm hlm 0 (by omega)
    refine ⟨_, _, _, _, q1, q2, fun h => ?_⟩
    cases hr : readS b 0 with
    | none => rw [hr] at h; cases h
    | some d =>
      rw [readS_mono hb hr]
      exact ⟨rfl, rfl, readS_len hb hr⟩
  obtain ⟨l, has, l2, got, k1, k2, hhas⟩ : ∃ (l : List Grp) (has : Bool) (l2 : List Grp) (got : Bool), AFun Try.prog 19 [bytesA b, i64 0, i64 glyphs] (.tup [.p (.fro (groupR l)), boolA has]) ∧
      AFun Try.prog 19 [bytesA (b ++ m), i64 0, i64 glyphs] (.tup [.p (.fro (groupR l2)), boolA got]) ∧ (has = true → got = true ∧ l2 = l ∧ l.length ≤ 1114112) := by
    have q1 := codes_fn b hb (by omega) 0 glyphs (by omega)
    have q2 := codes_fn (b ++ m) hbm hlm 0 glyphs (by omega)
    refine ⟨_, _, _, _, q1, q2, fun h => ?_⟩
    cases hr : codesS b 0 glyphs with
    | none => rw [hr] at h; cases h
    | some l =>
      rw [codesS_mono hb hr]
      exact ⟨rfl, rfl, mayL_len (codes_may hb hr)⟩
  cases ok <;> cases has
  · repeat' ((first
    | refine cs_seq ?_
    | (refine cs_freeze 18 rfl ?_; refine cs_frozen 7 rfl rfl (by simp only [byteR_len, List.length_append]) ?_)
    | refine cs_reg (by rfl) (fun K Kp hK hKp => ?_)
    | refine cs_drw mixed (by rfl) (by kernel_rfl) (fun K hK => ?_)
    | (refine hK _ _ ?_; try clear hKp; try clear hK; try clear Kp; try clear K)
    | refine cs_cond ?_
    | refine cs_ret (ret_fn ?_)
    | refine cs_scope ?_
    | refine cs_label ?_
    | refine cs_block ?_
    | refine cs_skip ?_
    | refine cs_exit ?_
    | (refine grdO_dec (fun hp => ?_) (fun hp => ?_) <;> first | (exfalso; omega; done) | skip)
    | (refine grdO_nd (fun hp => ?_) (fun hp => ?_) <;> first | (exfalso; omega; done) | skip)
    | (refine grdO_nb (fun hp => ?_) (fun hp => ?_) <;> first | (exfalso; omega; done) | skip)
    | (refine grdO_b (fun hp => ?_) (fun hp => ?_) <;> first | (exfalso; omega; done) | skip)
    | (refine grdP_dec (fun hp => ?_) (fun hp => ?_) <;> first | (exfalso; omega; done) | skip)
    | (refine grdP_nd (fun hp => ?_) (fun hp => ?_) <;> first | (exfalso; omega; done) | skip)
    | (refine grdP_nb (fun hp => ?_) (fun hp => ?_) <;> first | (exfalso; omega; done) | skip)
    | (refine grdP_b (fun hp => ?_) (fun hp => ?_) <;> first | (exfalso; omega; done) | skip)
    | (refine condK_d (fun hp => ?_) (fun hp => ?_) <;> first | (exfalso; omega; done) | skip)
    | (refine condK_nd (fun hp => ?_) (fun hp => ?_) <;> first | (exfalso; omega; done) | skip)
    | (refine condK_nb (fun hp => ?_) (fun hp => ?_) <;> first | (exfalso; omega; done) | skip)
    | (refine condK_b (fun hp => ?_) (fun hp => ?_) <;> first | (exfalso; omega; done) | skip)
    | (refine regO_call rfl ?_; refine CallK.fn (c0) (by simp only [push_cast]) rfl (by simp only [push_cast, and_self]) (by simp only [push_cast, and_self]) (by simp only [push_cast, ↓reduceIte, Nat.reduceEqDiff, Nat.reduceAdd]) ?_)
    | (refine regO_call rfl ?_; refine CallK.fn (r1) (by simp only [push_cast]) rfl (by simp only [push_cast, and_self]) (by simp only [push_cast, and_self]) (by simp only [push_cast, ↓reduceIte, Nat.reduceEqDiff, Nat.reduceAdd]) ?_)
    | (refine regO_call rfl ?_; refine CallK.fn (r2) (by simp only [push_cast]) rfl (by simp only [push_cast, and_self]) (by simp only [push_cast, and_self]) (by simp only [push_cast, ↓reduceIte, Nat.reduceEqDiff, Nat.reduceAdd]) ?_)
    | (refine regO_call rfl ?_; refine CallK.fn (k1) (by simp only [push_cast]) rfl (by simp only [push_cast, and_self]) (by simp only [push_cast, and_self]) (by simp only [push_cast, ↓reduceIte, Nat.reduceEqDiff, Nat.reduceAdd]) ?_)
    | (refine regO_call rfl ?_; refine CallK.fn (k2) (by simp only [push_cast]) rfl (by simp only [push_cast, and_self]) (by simp only [push_cast, and_self]) (by simp only [push_cast, ↓reduceIte, Nat.reduceEqDiff, Nat.reduceAdd]) ?_)
    | (with_reducible refine And.intro ?_ ?_; focus (first | omega | (constructor <;> omega) | (have hbits : IntKind.i64.bits = 64 := rfl; omega) | (simp [byteR_app, maxLen]; done) | (simp [byteR_app, maxLen]; omega)))) <;> try simp (disch := omega) only [push_cast, ↓regO_move, ↓regO_assign, ↓regO_pick, ↓regO_alloc, ↓regO_box, ↓regO_build, ↓regO_buildSlice, ↓regO_load, ↓regO_store, ↓regO_nilCheck, ↓regO_binOp, ↓regO_unOp, ↓regO_convert, ↓regO_makeFunc, ↓regO_makeSlice, ↓regO_slice, ↓regO_fieldAddr, ↓regO_field, ↓regO_indexAddr, ↓regO_index, ↓regO_extract, ↓regO_builtin, ↓regO_grd, ↓regP_move, ↓regP_assign, ↓regP_pick, ↓regP_alloc, ↓regP_box, ↓regP_build, ↓regP_buildSlice, ↓regP_load, ↓regP_store, ↓regP_nilCheck, ↓regP_binOp, ↓regP_unOp, ↓regP_convert, ↓regP_makeFunc, ↓regP_makeSlice, ↓regP_slice, ↓regP_fieldAddr, ↓regP_field, ↓regP_indexAddr, ↓regP_index, ↓regP_extract, ↓regP_builtin, ↓regP_grd, ↓aop_build, ↓reduceIte, List.getD_cons_zero, List.getD_cons_succ, List.getD_nil, implies_true, Nat.reduceEqDiff, Nat.reduceAdd, Nat.reduceMul, Nat.reduceSub, Nat.reduceLT, Nat.reduceLeDiff, reduceCtorEq, decide_true, decide_false, and_self, and_true, true_and, false_and, or_true, true_or, false_or, or_false, Int.ofNat_eq_natCast, ge_iff_le, gt_iff_lt, Int.toNat_natCast, Bool.not_true, Bool.true_and, Bool.and_true, Bool.not_false, Int.reduceToNat, w_i64, w_i32, byteR_app, maxLen])
  · obtain ⟨h5, h6, h7⟩ := hhas rfl
    subst h5; subst h6
    have s2 := groups_fn _ (Nat.le_trans h7 (by decide : 1114112 ≤ 1000000000))
    repeat' ((first
    | refine cs_seq ?_
    | (refine cs_freeze 18 rfl ?_; refine cs_frozen 7 rfl rfl (by simp only [byteR_len, List.length_append]) ?_)
    | refine cs_reg (by rfl) (fun K Kp hK hKp => ?_)
    | refine cs_drw mixed (by rfl) (by kernel_rfl) (fun K hK => ?_)
    | (refine hK _ _ ?_; try clear hKp; try clear hK; try clear Kp; try clear K)
    | refine cs_cond ?_
    | refine cs_ret (ret_fn ?_)
    | refine cs_scope ?_
    | refine cs_label ?_
    | refine cs_block ?_
    | refine cs_skip ?_
    | refine cs_exit ?_
    | (refine grdO_dec (fun hp => ?_) (fun hp => ?_) <;> first | (exfalso; omega; done) | skip)
    | (refine grdO_nd (fun hp => ?_) (fun hp => ?_) <;> first | (exfalso; omega; done) | skip)
    | (refine grdO_nb (fun hp => ?_) (fun hp => ?_) <;> first | (exfalso; omega; done) | skip)
    | (refine grdO_b (fun hp => ?_) (fun hp => ?_) <;> first | (exfalso; omega; done) | skip)
    | (refine grdP_dec (fun hp => ?_) (fun hp => ?_) <;> first | (exfalso; omega; done) | skip)
    | (refine grdP_nd (fun hp => ?_) (fun hp => ?_) <;> first | (exfalso; omega; done) | skip)
    | (refine grdP_nb (fun hp => ?_) (fun hp => ?_) <;> first | (exfalso; omega; done) | skip)
    | (refine grdP_b (fun hp => ?_) (fun hp => ?_) <;> first | (exfalso; omega; done) | skip)
    | (refine condK_d (fun hp => ?_) (fun hp => ?_) <;> first | (exfalso; omega; done) | skip)
    | (refine condK_nd (fun hp => ?_) (fun hp => ?_) <;> first | (exfalso; omega; done) | skip)
    | (refine condK_nb (fun hp => ?_) (fun hp => ?_) <;> first | (exfalso; omega; done) | skip)
    | (refine condK_b (fun hp => ?_) (fun hp => ?_) <;> first | (exfalso; omega; done) | skip)
    | (refine regO_call rfl ?_; refine CallK.fn (c0) (by simp only [push_cast]) rfl (by simp only [push_cast, and_self]) (by simp only [push_cast, and_self]) (by simp only [push_cast, ↓reduceIte, Nat.reduceEqDiff, Nat.reduceAdd]) ?_)
    | (refine regO_call rfl ?_; refine CallK.fn (r1) (by simp only [push_cast]) rfl (by simp only [push_cast, and_self]) (by simp only [push_cast, and_self]) (by simp only [push_cast, ↓reduceIte, Nat.reduceEqDiff, Nat.reduceAdd]) ?_)
    | (refine regO_call rfl ?_; refine CallK.fn (r2) (by simp only [push_cast]) rfl (by simp only [push_cast, and_self]) (by simp only [push_cast, and_self]) (by simp only [push_cast, ↓reduceIte, Nat.reduceEqDiff, Nat.reduceAdd]) ?_)
    | (refine regO_call rfl ?_; refine CallK.fn (k1) (by simp only [push_cast]) rfl (by simp only [push_cast, and_self]) (by simp only [push_cast, and_self]) (by simp only [push_cast, ↓reduceIte, Nat.reduceEqDiff, Nat.reduceAdd]) ?_)
    | (refine regO_call rfl ?_; refine CallK.fn (k2) (by simp only [push_cast]) rfl (by simp only [push_cast, and_self]) (by simp only [push_cast, and_self]) (by simp only [push_cast, ↓reduceIte, Nat.reduceEqDiff, Nat.reduceAdd]) ?_)
    | (refine regO_call rfl ?_; refine CallK.fn (s2) (by simp only [push_cast]) rfl (by simp only [push_cast, and_self]) (by simp only [push_cast, and_self]) (by simp only [push_cast, ↓reduceIte, Nat.reduceEqDiff, Nat.reduceAdd]) ?_)
    | (with_reducible refine And.intro ?_ ?_; focus (first | omega | (constructor <;> omega) | (have hbits : IntKind.i64.bits = 64 := rfl; omega) | (simp [byteR_app, maxLen]; done) | (simp [byteR_app, maxLen]; omega)))) <;> try simp (disch := omega) only [push_cast, ↓regO_move, ↓regO_assign, ↓regO_pick, ↓regO_alloc, ↓regO_box, ↓regO_build, ↓regO_buildSlice, ↓regO_load, ↓regO_store, ↓regO_nilCheck, ↓regO_binOp, ↓regO_unOp, ↓regO_convert, ↓regO_makeFunc, ↓regO_makeSlice, ↓regO_slice, ↓regO_fieldAddr, ↓regO_field, ↓regO_indexAddr, ↓regO_index, ↓regO_extract, ↓regO_builtin, ↓regO_grd, ↓regP_move, ↓regP_assign, ↓regP_pick, ↓regP_alloc, ↓regP_box, ↓regP_build, ↓regP_buildSlice, ↓regP_load, ↓regP_store, ↓regP_nilCheck, ↓regP_binOp, ↓regP_unOp, ↓regP_convert, ↓regP_makeFunc, ↓regP_makeSlice, ↓regP_slice, ↓regP_fieldAddr, ↓regP_field, ↓regP_indexAddr, ↓regP_index, ↓regP_extract, ↓regP_builtin, ↓regP_grd, ↓aop_build, ↓reduceIte, List.getD_cons_zero, List.getD_cons_succ, List.getD_nil, implies_true, Nat.reduceEqDiff, Nat.reduceAdd, Nat.reduceMul, Nat.reduceSub, Nat.reduceLT, Nat.reduceLeDiff, reduceCtorEq, decide_true, decide_false, and_self, and_true, true_and, false_and, or_true, true_or, false_or, or_false, Int.ofNat_eq_natCast, ge_iff_le, gt_iff_lt, Int.toNat_natCast, Bool.not_true, Bool.true_and, Bool.and_true, Bool.not_false, Int.reduceToNat, w_i64, w_i32, byteR_app, maxLen])
  · obtain ⟨h3, h4, hd⟩ := hok rfl
    subst h3; subst h4
    have s1 := sameD_fn _ hd
    repeat' ((first
    | refine cs_seq ?_
    | (refine cs_freeze 18 rfl ?_; refine cs_frozen 7 rfl rfl (by simp only [byteR_len, List.length_append]) ?_)
    | refine cs_reg (by rfl) (fun K Kp hK hKp => ?_)
    | refine cs_drw mixed (by rfl) (by kernel_rfl) (fun K hK => ?_)
    | (refine hK _ _ ?_; try clear hKp; try clear hK; try clear Kp; try clear K)
    | refine cs_cond ?_
    | refine cs_ret (ret_fn ?_)
    | refine cs_scope ?_
    | refine cs_label ?_
    | refine cs_block ?_
    | refine cs_skip ?_
    | refine cs_exit ?_
    | (refine grdO_dec (fun hp => ?_) (fun hp => ?_) <;> first | (exfalso; omega; done) | skip)
    | (refine grdO_nd (fun hp => ?_) (fun hp => ?_) <;> first | (exfalso; omega; done) | skip)
    | (refine grdO_nb (fun hp => ?_) (fun hp => ?_) <;> first | (exfalso; omega; done) | skip)
    | (refine grdO_b (fun hp => ?_) (fun hp => ?_) <;> first | (exfalso; omega; done) | skip)
    | (refine grdP_dec (fun hp => ?_) (fun hp => ?_) <;> first | (exfalso; omega; done) | skip)
    | (refine grdP_nd (fun hp => ?_) (fun hp => ?_) <;> first | (exfalso; omega; done) | skip)
    | (refine grdP_nb (fun hp => ?_) (fun hp => ?_) <;> first | (exfalso; omega; done) | skip)
    | (refine grdP_b (fun hp => ?_) (fun hp => ?_) <;> first | (exfalso; omega; done) | skip)
    | (refine condK_d (fun hp => ?_) (fun hp => ?_) <;> first | (exfalso; omega; done) | skip)
    | (refine condK_nd (fun hp => ?_) (fun hp => ?_) <;> first | (exfalso; omega; done) | skip)
    | (refine condK_nb (fun hp => ?_) (fun hp => ?_) <;> first | (exfalso; omega; done) | skip)
    | (refine condK_b (fun hp => ?_) (fun hp => ?_) <;> first | (exfalso; omega; done) | skip)
    | (refine regO_call rfl ?_; refine CallK.fn (c0) (by simp only [push_cast]) rfl (by simp only [push_cast, and_self]) (by simp only [push_cast, and_self]) (by simp only [push_cast, ↓reduceIte, Nat.reduceEqDiff, Nat.reduceAdd]) ?_)
    | (refine regO_call rfl ?_; refine CallK.fn (r1) (by simp only [push_cast]) rfl (by simp only [push_cast, and_self]) (by simp only [push_cast, and_self]) (by simp only [push_cast, ↓reduceIte, Nat.reduceEqDiff, Nat.reduceAdd]) ?_)
    | (refine regO_call rfl ?_; refine CallK.fn (r2) (by simp only [push_cast]) rfl (by simp only [push_cast, and_self]) (by simp only [push_cast, and_self]) (by simp only [push_cast, ↓reduceIte, Nat.reduceEqDiff, Nat.reduceAdd]) ?_)
    | (refine regO_call rfl ?_; refine CallK.fn (k1) (by simp only [push_cast]) rfl (by simp only [push_cast, and_self]) (by simp only [push_cast, and_self]) (by simp only [push_cast, ↓reduceIte, Nat.reduceEqDiff, Nat.reduceAdd]) ?_)
    | (refine regO_call rfl ?_; refine CallK.fn (k2) (by simp only [push_cast]) rfl (by simp only [push_cast, and_self]) (by simp only [push_cast, and_self]) (by simp only [push_cast, ↓reduceIte, Nat.reduceEqDiff, Nat.reduceAdd]) ?_)
    | (refine regO_call rfl ?_; refine CallK.fn (s1) (by simp only [push_cast]) rfl (by simp only [push_cast, and_self]) (by simp only [push_cast, and_self]) (by simp only [push_cast, ↓reduceIte, Nat.reduceEqDiff, Nat.reduceAdd]) ?_)
    | (with_reducible refine And.intro ?_ ?_; focus (first | omega | (constructor <;> omega) | (have hbits : IntKind.i64.bits = 64 := rfl; omega) | (simp [byteR_app, maxLen]; done) | (simp [byteR_app, maxLen]; omega)))) <;> try simp (disch := omega) only [push_cast, ↓regO_move, ↓regO_assign, ↓regO_pick, ↓regO_alloc, ↓regO_box, ↓regO_build, ↓regO_buildSlice, ↓regO_load, ↓regO_store, ↓regO_nilCheck, ↓regO_binOp, ↓regO_unOp, ↓regO_convert, ↓regO_makeFunc, ↓regO_makeSlice, ↓regO_slice, ↓regO_fieldAddr, ↓regO_field, ↓regO_indexAddr, ↓regO_index, ↓regO_extract, ↓regO_builtin, ↓regO_grd, ↓regP_move, ↓regP_assign, ↓regP_pick, ↓regP_alloc, ↓regP_box, ↓regP_build, ↓regP_buildSlice, ↓regP_load, ↓regP_store, ↓regP_nilCheck, ↓regP_binOp, ↓regP_unOp, ↓regP_convert, ↓regP_makeFunc, ↓regP_makeSlice, ↓regP_slice, ↓regP_fieldAddr, ↓regP_field, ↓regP_indexAddr, ↓regP_index, ↓regP_extract, ↓regP_builtin, ↓regP_grd, ↓aop_build, ↓reduceIte, List.getD_cons_zero, List.getD_cons_succ, List.getD_nil, implies_true, Nat.reduceEqDiff, Nat.reduceAdd, Nat.reduceMul, Nat.reduceSub, Nat.reduceLT, Nat.reduceLeDiff, reduceCtorEq, decide_true, decide_false, and_self, and_true, true_and, false_and, or_true, true_or, false_or, or_false, Int.ofNat_eq_natCast, ge_iff_le, gt_iff_lt, Int.toNat_natCast, Bool.not_true, Bool.true_and, Bool.and_true, Bool.not_false, Int.reduceToNat, w_i64, w_i32, byteR_app, maxLen])
  · obtain ⟨h3, h4, hd⟩ := hok rfl
    obtain ⟨h5, h6, h7⟩ := hhas rfl
    subst h3; subst h4; subst h5; subst h6
    have s1 := sameD_fn _ hd
    have s2 := groups_fn _ (Nat.le_trans h7 (by decide : 1114112 ≤ 1000000000))
    repeat' ((first
    | refine cs_seq ?_
    | (refine cs_freeze 18 rfl ?_; refine cs_frozen 7 rfl rfl (by simp only [byteR_len, List.length_append]) ?_)
    | refine cs_reg (by rfl) (fun K Kp hK hKp => ?_)
    | refine cs_drw mixed (by rfl) (by kernel_rfl) (fun K hK => ?_)
    | (refine hK _ _ ?_; try clear hKp; try clear hK; try clear Kp; try clear K)
    | refine cs_cond ?_
    | refine cs_ret (ret_fn ?_)
    | refine cs_scope ?_
    | refine cs_label ?_
    | refine cs_block ?_
    | refine cs_skip ?_
    | refine cs_exit ?_
    | (refine grdO_dec (fun hp => ?_) (fun hp => ?_) <;> first | (exfalso; omega; done) | skip)
    | (refine grdO_nd (fun hp => ?_) (fun hp => ?_) <;> first | (exfalso; omega; done) | skip)
    | (refine grdO_nb (fun hp => ?_) (fun hp => ?_) <;> first | (exfalso; omega; done) | skip)
    | (refine grdO_b (fun hp => ?_) (fun hp => ?_) <;> first | (exfalso; omega; done) | skip)
    | (refine grdP_dec (fun hp => ?_) (fun hp => ?_) <;> first | (exfalso; omega; done) | skip)
    | (refine grdP_nd (fun hp => ?_) (fun hp => ?_) <;> first | (exfalso; omega; done) | skip)
    | (refine grdP_nb (fun hp => ?_) (fun hp => ?_) <;> first | (exfalso; omega; done) | skip)
    | (refine grdP_b (fun hp => ?_) (fun hp => ?_) <;> first | (exfalso; omega; done) | skip)
    | (refine condK_d (fun hp => ?_) (fun hp => ?_) <;> first | (exfalso; omega; done) | skip)
    | (refine condK_nd (fun hp => ?_) (fun hp => ?_) <;> first | (exfalso; omega; done) | skip)
    | (refine condK_nb (fun hp => ?_) (fun hp => ?_) <;> first | (exfalso; omega; done) | skip)
    | (refine condK_b (fun hp => ?_) (fun hp => ?_) <;> first | (exfalso; omega; done) | skip)
    | (refine regO_call rfl ?_; refine CallK.fn (c0) (by simp only [push_cast]) rfl (by simp only [push_cast, and_self]) (by simp only [push_cast, and_self]) (by simp only [push_cast, ↓reduceIte, Nat.reduceEqDiff, Nat.reduceAdd]) ?_)
    | (refine regO_call rfl ?_; refine CallK.fn (r1) (by simp only [push_cast]) rfl (by simp only [push_cast, and_self]) (by simp only [push_cast, and_self]) (by simp only [push_cast, ↓reduceIte, Nat.reduceEqDiff, Nat.reduceAdd]) ?_)
    | (refine regO_call rfl ?_; refine CallK.fn (r2) (by simp only [push_cast]) rfl (by simp only [push_cast, and_self]) (by simp only [push_cast, and_self]) (by simp only [push_cast, ↓reduceIte, Nat.reduceEqDiff, Nat.reduceAdd]) ?_)
    | (refine regO_call rfl ?_; refine CallK.fn (k1) (by simp only [push_cast]) rfl (by simp only [push_cast, and_self]) (by simp only [push_cast, and_self]) (by simp only [push_cast, ↓reduceIte, Nat.reduceEqDiff, Nat.reduceAdd]) ?_)
    | (refine regO_call rfl ?_; refine CallK.fn (k2) (by simp only [push_cast]) rfl (by simp only [push_cast, and_self]) (by simp only [push_cast, and_self]) (by simp only [push_cast, ↓reduceIte, Nat.reduceEqDiff, Nat.reduceAdd]) ?_)
    | (refine regO_call rfl ?_; refine CallK.fn (s1) (by simp only [push_cast]) rfl (by simp only [push_cast, and_self]) (by simp only [push_cast, and_self]) (by simp only [push_cast, ↓reduceIte, Nat.reduceEqDiff, Nat.reduceAdd]) ?_)
    | (refine regO_call rfl ?_; refine CallK.fn (s2) (by simp only [push_cast]) rfl (by simp only [push_cast, and_self]) (by simp only [push_cast, and_self]) (by simp only [push_cast, ↓reduceIte, Nat.reduceEqDiff, Nat.reduceAdd]) ?_)
    | (with_reducible refine And.intro ?_ ?_; focus (first | omega | (constructor <;> omega) | (have hbits : IntKind.i64.bits = 64 := rfl; omega) | (simp [byteR_app, maxLen]; done) | (simp [byteR_app, maxLen]; omega)))) <;> try simp (disch := omega) only [push_cast, ↓regO_move, ↓regO_assign, ↓regO_pick, ↓regO_alloc, ↓regO_box, ↓regO_build, ↓regO_buildSlice, ↓regO_load, ↓regO_store, ↓regO_nilCheck, ↓regO_binOp, ↓regO_unOp, ↓regO_convert, ↓regO_makeFunc, ↓regO_makeSlice, ↓regO_slice, ↓regO_fieldAddr, ↓regO_field, ↓regO_indexAddr, ↓regO_index, ↓regO_extract, ↓regO_builtin, ↓regO_grd, ↓regP_move, ↓regP_assign, ↓regP_pick, ↓regP_alloc, ↓regP_box, ↓regP_build, ↓regP_buildSlice, ↓regP_load, ↓regP_store, ↓regP_nilCheck, ↓regP_binOp, ↓regP_unOp, ↓regP_convert, ↓regP_makeFunc, ↓regP_makeSlice, ↓regP_slice, ↓regP_fieldAddr, ↓regP_field, ↓regP_indexAddr, ↓regP_index, ↓regP_extract, ↓regP_builtin, ↓regP_grd, ↓aop_build, ↓reduceIte, List.getD_cons_zero, List.getD_cons_succ, List.getD_nil, implies_true, Nat.reduceEqDiff, Nat.reduceAdd, Nat.reduceMul, Nat.reduceSub, Nat.reduceLT, Nat.reduceLeDiff, reduceCtorEq, decide_true, decide_false, and_self, and_true, true_and, false_and, or_true, true_or, false_or, or_false, Int.ofNat_eq_natCast, ge_iff_le, gt_iff_lt, Int.toNat_natCast, Bool.not_true, Bool.true_and, Bool.and_true, Bool.not_false, Int.reduceToNat, w_i64, w_i32, byteR_app, maxLen])
end Go.Proofs.Ytohmjbgcmccplaa
