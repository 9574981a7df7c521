/- Regions whose order the model leaves open: the simulation. No condition. -/
import Derived.Test.YtohmjbgcmccplaaAb16
set_option linter.unusedVariables false
set_option linter.unusedSimpArgs false
namespace Go.Ab
open Go

/-! ### What is still to be done -/

def remL (nb : Nat) (lst : Nat → Bool) : Nat → List SOp → List (Nat × SOp)
  | _, [] => []
  | k, o :: l => if lst k = true then remL nb lst (k + 1) l else (nb + k, o) :: remL nb lst (k + 1) l

theorem remL_nil {nb : Nat} {lst : Nat → Bool} : ∀ {l : List SOp} {k : Nat}, (∀ j, lst j = true) → remL nb lst k l = []
  | [], _, _ => rfl
  | o :: l, k, h => by rw [remL, if_pos (h k)]; exact remL_nil h

theorem remL_done {nb : Nat} {lst : Nat → Bool} : ∀ {l : List SOp} {k : Nat}, remL nb lst k l = [] → ∀ j, k ≤ j → j < k + l.length → lst j = true
  | [], k, _, j, h1, h2 => by simp at h2; omega
  | o :: l, k, h, j, h1, h2 => by
    rw [remL] at h
    split at h
    · rename_i hk
      by_cases e : j = k
      · rw [e]; exact hk
      · exact remL_done h j (by omega) (by simp at h2; omega)
    · cases h

theorem remL_congr {nb : Nat} {lst lst' : Nat → Bool} : ∀ {l : List SOp} {k : Nat}, (∀ j, k ≤ j → lst j = lst' j) → remL nb lst k l = remL nb lst' k l
  | [], _, _ => rfl
  | o :: l, k, h => by rw [remL, remL, h k (Nat.le_refl _), remL_congr (fun j hj => h j (by omega))]

theorem remL_split {nb : Nat} {lst lst' : Nat → Bool} {i : Nat} (hi : lst i = false) (hi' : lst' i = true) (ho : ∀ j, j ≠ i → lst' j = lst j) : ∀ {l : List SOp} {k : Nat} {o : SOp}, k ≤ i → l[i - k]? = some o →
    ∃ pre post, remL nb lst k l = pre ++ (nb + i, o) :: post ∧ remL nb lst' k l = pre ++ post ∧ ∀ q ∈ pre, ∃ j x, k ≤ j ∧ j < i ∧ q = (nb + j, x) ∧ lst j = false ∧ l[j - k]? = some x
  | [], k, o, h, hl => by simp at hl
  | y :: l, k, o, h, hl => by
    by_cases e : i = k
    · subst e
      rw [Nat.sub_self] at hl
      simp at hl
      subst hl
      refine ⟨[], remL nb lst (i + 1) l, by rw [remL, if_neg (by simp [hi])]; rfl, ?_, fun q hq => by simp at hq⟩
      rw [remL, if_pos hi']
      exact remL_congr fun j hj => ho j (by omega)
    · have hl2 : l[i - (k + 1)]? = some o := by
        rw [show i - k = (i - (k + 1)) + 1 by omega] at hl
        simpa using hl
      obtain ⟨pre, post, h1, h2, h3⟩ := remL_split hi hi' ho (l := l) (k := k + 1) (by omega) hl2
      have lift : ∀ q ∈ pre, ∃ j x, k ≤ j ∧ j < i ∧ q = (nb + j, x) ∧ lst j = false ∧ (y :: l)[j - k]? = some x := fun q hq => by
        obtain ⟨j, x, q1, q2, q3, q4, q5⟩ := h3 q hq
        exact ⟨j, x, by omega, q2, q3, q4, by rw [show j - k = (j - (k + 1)) + 1 by omega]; simpa using q5⟩
      have hk : lst' k = lst k := ho k (by omega)
      by_cases hlk : lst k = true
      · exact ⟨pre, post, by rw [remL, if_pos hlk, h1], by rw [remL, if_pos (by rw [hk]; exact hlk), h2], lift⟩
      · refine ⟨(nb + k, y) :: pre, post, by rw [remL, if_neg hlk, h1]; rfl, by rw [remL, if_neg (by rw [hk]; exact hlk), h2]; rfl, fun q hq => ?_⟩
        rcases List.mem_cons.1 hq with e2 | hq
        · exact ⟨k, y, Nat.le_refl _, by omega, e2, by simpa using hlk, by simp⟩
        · exact lift q hq

theorem remL_len {nb : Nat} {lst : Nat → Bool} : ∀ {l : List SOp} {k : Nat}, (remL nb lst k l).length ≤ l.length
  | [], _ => Nat.le_refl _
  | o :: l, k => by
    rw [remL]
    split
    · have := remL_len (nb := nb) (lst := lst) (l := l) (k := k + 1); simp; omega
    · have := remL_len (nb := nb) (lst := lst) (l := l) (k := k + 1); simp; omega

/-! ### From the text's order -/

theorem storeS_fresh {h h' : AHeap} {y : TyF} {a v : AV} {s : Prop} (hs : storeS h y a v = some (s, h')) {id : Nat} (hid : h id = none) : h' id = none := by
  unfold storeS at hs
  repeat' (split at hs)
  all_goals first
    | (cases hs; done)
    | (injection hs with hs; injection hs with h1 h2; subst h2
       rename_i hh _ _ _
       rw [upd_other]
       · exact hid
       · intro e; subst e; simp_all)
    | (injection hs with hs; injection hs with h1 h2; subst h2
       rw [upd_other]
       · exact hid
       · intro e; subst e; simp_all)

theorem aop_fresh {P : Program} {nid : Nat} {env : AEnv} {h h' : AHeap} {op : Op} {s : Prop} {x : AV} (ha : aop P nid env h op = some (s, x, h')) {id : Nat} (hne : id ≠ nid) (hid : h id = none) : h' id = none := by
  cases hk : kindOf op with
  | pure => rw [(aop_pure hk ha).1]; exact hid
  | read => rw [(aop_read hk ha).1]; exact hid
  | new =>
    obtain ⟨ck, e, _⟩ := aop_new hk ha
    rw [e, upd_other _ _ hne]
    exact hid
  | other =>
    cases op <;> simp only [kindOf, reduceCtorEq] at hk <;> simp only [aop] at ha <;> try (cases ha; done)
    case store t a v =>
      split at ha
      · split at ha
        · rename_i s' h2 hs
          injection ha with ha; injection ha with h1 ha; injection ha with h3 h4; subst h4
          exact storeS_fresh hs hid
        · cases ha
      · cases ha
    case call c =>
      obtain ⟨callee, args, ats⟩ := c
      cases callee <;> simp only [] at ha <;> try (cases ha; done)
      rename_i b
      cases b <;> simp only [kindOf, reduceCtorEq] at hk <;> simp only [builtinS] at ha
      all_goals
        repeat' (split at ha)
        all_goals first
          | (cases ha; done)
          | (rename_i heq; cases heq; done)
          | (injection ha with ha; injection ha with h1 ha; injection ha with h3 h4; subst h4
             first
               | exact hid
               | (rw [upd_other _ _ hne]; exact hid)
               | (rw [upd_other _ _ hne]; unfold upd; split <;> first | rfl | exact hid))

theorem execD_step {P : Program} {nid : Nat} {env : AEnv} {h : AHeap} {op : Op} {K : AV → AHeap → Prop} (hf : ∀ id, nid ≤ id → h id = none) (hx : execD P nid env h op K) :
    ∃ x h', stepD P nid env h op x h' ∧ K x h' ∧ ∀ id, nid + 1 ≤ id → h' id = none := by
  unfold execD at hx
  split at hx
  · rename_i fo args ats
    unfold callD at hx
    split at hx
    · rename_i f caps hc
      obtain ⟨h1, x, h2, h3, h4, h5⟩ := hx
      exact ⟨x, h, ⟨f, caps, hc, h1, h2, h3, h4, rfl⟩, h5, fun id hid => hf id (by omega)⟩
    · exact hx.elim
  · exact hx.elim
  · split at hx
    · rename_i h1 h2 _ s x h' ha
      refine ⟨x, h', ?_, hx.2, fun id hid => aop_fresh ha (by omega) (hf id (by omega))⟩
      unfold stepD
      split
      · exact absurd rfl (h1 _ _ _)
      · exact absurd rfl (h2 _)
      · exact ⟨fun _ => hf nid (Nat.le_refl _), s, ha, hx.1⟩
    · exact hx.elim

theorem regD_TDs {P : Program} {ds : List (Option Tmp)} {K : AEnv → AHeap → Prop} {nb : Nat} : ∀ {l : List SOp} {k : Nat} {env : AEnv} {h : AHeap}, (∀ id, nb + k ≤ id → h id = none) → regD P ds K (nb + k) l env h → TDs P ds K (remL nb (fun _ => false) k l) env h
  | [], k, env, h, _, hr => hr
  | o :: l, k, env, h, hf, hr => by
    rw [remL, if_neg (by simp)]
    simp only [TDs, TD]
    simp only [regD] at hr
    have go : execD P (nb + k) env h o.op (fun x h' => regD P ds K (nb + k + 1) l (putE env o.dst x) h') → ∃ x h', stepD P (nb + k) env h o.op x h' ∧ TDs P ds K (remL nb (fun _ => false) (k + 1) l) (putE env o.dst x) h' := by
      intro hx
      obtain ⟨x, h', h1, h2, h3⟩ := execD_step hf hx
      exact ⟨x, h', h1, regD_TDs (k := k + 1) (fun id hid => h3 id (by omega)) h2⟩
    split
    · rename_i hg
      rw [hg] at hr
      exact go hr
    · rename_i j want hg
      rw [hg] at hr
      simp only [] at hr
      split at hr
      · rename_i b hb
        exact ⟨b, hb, fun e => go (hr.1 e), fun e => regD_TDs (k := k + 1) (fun id hid => hf id (by omega)) (hr.2 e)⟩
      · exact hr.elim

theorem stepD_exec1 {P : Program} {n : Nat} {env : AEnv} {h h' : AHeap} {op : Op} {x : AV} (hn : h n = none) (hs : stepD P n env h op x h') : exec1 P n env h op (fun y g => y = x ∧ g = h') (fun _ => False) := by
  unfold stepD at hs
  unfold exec1
  split at hs
  · rename_i fo args ats
    obtain ⟨f, caps, h1, h2, h3, h4, h5, h6⟩ := hs
    simp only [h1]
    exact CallK.fn h3 h2 rfl h4 h5 hn ⟨rfl, h6.symm⟩
  · exact hs.elim
  · rename_i h1 h2
    split
    · exact absurd rfl (h1 _ _ _)
    · exact absurd rfl (h2 _)
    · obtain ⟨_, s, ha, hs⟩ := hs
      rw [ha]
      exact ⟨hs, rfl, rfl⟩

/-! ### The simulation -/

structure SimD (nt nb n : Nat) (E : Env) (env : AEnv) (h : AHeap) (lst : Nat → Bool) (a : Act) (w : World) : Prop where
  ok : WOK E h w
  env : ∀ k, Rep E (env k) (a.tmps.getD k undef)
  fresh : ∀ id, nb + n ≤ id → E.ch id = .unborn
  free : ∀ j, j < n → lst j = false → E.ch (nb + j) = .unborn
  size : a.tmps.size = nt
  defers : a.defers = []

theorem getD_both {listed : Array Bool} {j : Nat} (h : j < listed.size) : listed.getD j false = listed.getD j true := by
  simp [h]

theorem any_wp {P : Program} {ops : Array Oper} {nt m nb : Nat} {D : Nat → Nat → Prop} {K : AEnv → AHeap → Prop} {Q : Exit → Act → World → Prop} (hreg : regOK nt ops.toList = true) (hD : DrawFacts ops D) (hm : m ≤ nb) :
    ∀ (fuel : Nat) (listed : Array Bool) (E : Env) (env : AEnv) (h : AHeap) (a : Act) (w : World), listed.size = ops.size →
      (remL nb (fun j => listed.getD j true) 0 (strip ops.toList)).length ≤ fuel → (∀ i j, i < ops.size → listed.getD i true = true → D i j → listed.getD j true = true) →
      SimD nt nb ops.size E env h (fun j => listed.getD j true) a w → TDs P (ops.toList.map (·.dst)) K (remL nb (fun j => listed.getD j true) 0 (strip ops.toList)) env h →
      (∀ E' env' h' a' w', K env' h' → Sim nt E' env' h' (nb + ops.size) a' w' → Evol m E h w E' h' w' → Q .normal a' w') →
      wpAny P .any ops Q fuel listed a w := by
  have slen : (strip ops.toList).length = ops.size := by simp [strip]
  have fin : ∀ (listed : Array Bool) (E : Env) (env : AEnv) (h : AHeap) (a : Act) (w : World), remL nb (fun j => listed.getD j true) 0 (strip ops.toList) = [] → SimD nt nb ops.size E env h (fun j => listed.getD j true) a w →
      TDs P (ops.toList.map (·.dst)) K (remL nb (fun j => listed.getD j true) 0 (strip ops.toList)) env h →
      (∀ E' env' h' a' w', K env' h' → Sim nt E' env' h' (nb + ops.size) a' w' → Evol m E h w E' h' w' → Q .normal a' w') → Q .normal a w := by
    intro listed E env h a w hr hs ht hQ
    rw [hr] at ht
    exact hQ E env h a w ht ⟨hs.ok, hs.env, hs.fresh, hs.size, hs.defers⟩ (.refl _ _ _ _)
  have alldone : ∀ (listed : Array Bool), listed.size = ops.size → remL nb (fun j => listed.getD j true) 0 (strip ops.toList) = [] → ∀ j, listed.getD j true = true := by
    intro listed hsz hr j
    by_cases hj : j < ops.size
    · exact remL_done hr j (by omega) (by rw [slen]; omega)
    · simp [show ¬ j < listed.size by omega]
  have noready : ∀ (listed : Array Bool), listed.size = ops.size → Region.ready .any ops listed = [] → remL nb (fun j => listed.getD j true) 0 (strip ops.toList) = [] := by
    intro listed hsz hr
    refine remL_nil fun j => ?_
    induction j using Nat.strongRecOn with
    | _ j ih =>
      cases hj : listed.getD j true with
      | true => rfl
      | false =>
        have hlt : j < listed.size := by
          rcases Nat.lt_or_ge j listed.size with h | h
          · exact h
          · simp [show ¬ j < listed.size by omega] at hj
        have ho : ops[j]? = some ops[j] := by simp [show j < ops.size by omega]
        have : j ∈ Region.ready .any ops listed := by
          rw [mem_ready]
          refine ⟨hj, _, ho, fun e he hb => ?_⟩
          have hlt2 := hD.back j _ ho e.on (by
            unfold backs
            rw [List.mem_map]
            exact ⟨e, by rw [List.mem_filter]; exact ⟨by simpa using he, hb⟩, rfl⟩)
          rw [getD_both (by omega)]
          exact ih _ hlt2
        rw [hr] at this
        cases this
  intro fuel
  induction fuel with
  | zero =>
    intro listed E env h a w hsz hlen hcl hs ht hQ
    have hr : remL nb (fun j => listed.getD j true) 0 (strip ops.toList) = [] := List.eq_nil_of_length_eq_zero (by omega)
    refine ⟨?_, fin listed E env h a w hr hs ht hQ⟩
    have hall := alldone listed hsz hr
    cases hrd : Region.ready .any ops listed with
    | nil => rfl
    | cons i l =>
      have : i ∈ Region.ready .any ops listed := by rw [hrd]; simp
      rw [mem_ready] at this
      rw [hall i] at this
      cases this.1
  | succ fuel ih =>
    intro listed E env h a w hsz hlen hcl hs ht hQ
    refine ⟨fun hr => fin listed E env h a w (noready listed hsz hr) hs ht hQ, fun i hi => ?_⟩
    rw [mem_ready] at hi
    obtain ⟨hi0, o, ho, hedge⟩ := hi
    have hisz : i < ops.size := (Array.getElem?_eq_some_iff.1 ho).1
    have hset : (listed.setIfInBounds i true).getD i true = true := by simp [show i < listed.size by omega]
    have hoth : ∀ j, j ≠ i → (listed.setIfInBounds i true).getD j true = listed.getD j true := fun j hj => getD_set_ne true (Ne.symm hj)
    obtain ⟨pre, post, h1, h2, h3⟩ := remL_split (nb := nb) (lst := fun j => listed.getD j true) (lst' := fun j => (listed.setIfInBounds i true).getD j true) (i := i) hi0 hset hoth (l := strip ops.toList) (k := 0) (o := ⟨o.dst, o.op, o.guard⟩) (by omega) (by
      have : ops.toList[i]? = some o := by simpa using ho
      simp [strip, this])
    rw [h1] at ht hlen
    have ed : ∀ e ∈ backs o, listed.getD e true = true := fun e he => by
      unfold backs at he
      rw [List.mem_map] at he
      obtain ⟨e2, h4, rfl⟩ := he
      rw [List.mem_filter] at h4
      have hlt := hD.back i o ho e2.on (by
            unfold backs
            rw [List.mem_map]
            exact ⟨e2, by rw [List.mem_filter]; exact h4, rfl⟩)
      have := hedge e2 (by simpa using h4.1) h4.2
      rwa [getD_both (by omega)] at this
    have above : ∀ j, D i j → listed.getD j true = true := fun j hj => by
      obtain ⟨e, he, h4⟩ := hD.anc i o ho j hj
      have hl := ed e he
      rcases h4 with h4 | h4
      · rw [← h4]; exact hl
      · exact hcl e j (Nat.lt_trans (hD.back i o ho e he) hisz) hl h4
    have ht2 := TDs_pull (n := nb + i) (y := ⟨o.dst, o.op, o.guard⟩) pre (fun q hq => by
      obtain ⟨j, x, q1, q2, q3, q4, q5⟩ := h3 q hq
      subst q3
      refine ⟨by simp; omega, ?_⟩
      rw [Nat.sub_zero] at q5
      have hx : ∃ xo, ops[j]? = some xo ∧ x = ⟨xo.dst, xo.op, xo.guard⟩ := by
        refine ⟨ops[j], by simp [show j < ops.size by omega], ?_⟩
        simp [strip, show j < ops.size by omega] at q5
        exact q5.symm
      obtain ⟨xo, hxo, rfl⟩ := hx
      rcases hD.pass i o j xo ho q2 hxo with h4 | h4
      · rw [above j h4] at q4; cases q4
      · exact h4) ht
    have hmem : o ∈ ops.toList := by simpa using Array.mem_of_getElem? ho
    have hdst : ∀ t, o.dst = some t → t < a.tmps.size := by
      intro t ht
      have := List.all_eq_true.1 hreg o hmem
      rw [ht] at this
      rw [hs.size]
      simpa using this
    have hun : E.ch (nb + i) = .unborn := hs.free i hisz hi0
    have hnone : h (nb + i) = none := by
      cases hh : h (nb + i) with
      | none => rfl
      | some ck => have := hs.ok.ck (nb + i); rw [hh, hun] at this; exact absurd rfl this.born
    have cl2 : ∀ i' j, i' < ops.size → (listed.setIfInBounds i true).getD i' true = true → D i' j → (listed.setIfInBounds i true).getD j true = true := by
      intro i' j hlt h4 h5
      by_cases e : j = i
      · rw [e]; exact hset
      · rw [hoth j e]
        by_cases e2 : i' = i
        · rw [e2] at h5; exact above j h5
        · rw [hoth i' e2] at h4; exact hcl i' j hlt h4 h5
    have len2 : (remL nb (fun j => (listed.setIfInBounds i true).getD j true) 0 (strip ops.toList)).length ≤ fuel := by
      rw [h2]; simp at hlen ⊢; omega
    have exec : (∃ x h', stepD P (nb + i) env h o.op x h' ∧ TDs P (ops.toList.map (·.dst)) K (pre ++ post) (putE env o.dst x) h') → o.wp P a w (wpAny P .any ops Q fuel (listed.setIfInBounds i true)) Q := by
      rintro ⟨x, h', hst, hk⟩
      refine exec1_go hs.ok hs.env hun (stepD_exec1 hnone hst) _ Q (fun val w' E' y g hyg g1 g2 g3 g4 => ?_) (fun v w' E' y g hF => hF.elim)
      obtain ⟨rfl, rfl⟩ := hyg
      have hle := g2.le hun
      have hev := g4.evol g2 (show m ≤ nb + i by omega)
      refine ih _ E' _ g _ w' (by simpa using hsz) len2 cl2 ⟨g3, put_env hle hs.env g1 hdst, fun id hid => ?_, fun j hj hjl => ?_, by rw [put_size]; exact hs.size, by rw [put_defers]; exact hs.defers⟩ (by rw [h2]; exact hk)
        (fun E2 env2 h2' a2 w2 q1 q2 q3 => hQ E2 env2 h2' a2 w2 q1 q2 (hev.trans q3))
      · rcases g2.ch id (by omega) with e | ⟨_, e⟩
        · rw [e]; exact hs.fresh id hid
        · exact absurd (hs.fresh id hid) e
      · have hji : j ≠ i := fun e => by subst e; rw [show (listed.setIfInBounds j true).getD j true = true from hset] at hjl; cases hjl
        rw [show (listed.setIfInBounds i true).getD j true = listed.getD j true from hoth j hji] at hjl
        rcases g2.ch (nb + j) (by omega) with e | ⟨_, e⟩
        · rw [e]; exact hs.free j hj hjl
        · exact absurd (hs.free j hj hjl) e
    unfold wpOp
    rw [ho]
    simp only []
    simp only [TD] at ht2
    cases hg : o.guard with
    | none =>
      rw [hg] at ht2
      have hw : Region.wanted o (yielded ops a.tmps) = true := by simp [Region.wanted, hg]
      rw [if_pos hw]
      exact .inl (exec ht2)
    | some jw =>
      obtain ⟨j, want⟩ := jw
      rw [hg] at ht2
      simp only [] at ht2
      obtain ⟨b, hb, t1, t2⟩ := ht2
      have hy := yld_spec hs.env hs.size hreg hb
      by_cases e : b = want
      · have hw : Region.wanted o (yielded ops a.tmps) = true := by simp only [Region.wanted, hg, hy, e, beq_self_eq_true, beq_iff_eq, not_false_eq_true]
        rw [if_pos hw]
        exact .inl (exec (t1 e))
      · have hw : ¬ Region.wanted o (yielded ops a.tmps) = true := by simp only [Region.wanted, hg, hy, e, beq_self_eq_true, beq_iff_eq, not_false_eq_true]
        rw [if_neg hw]
        refine ih _ E _ h _ w (by simpa using hsz) len2 cl2 ⟨hs.ok, put_env (.refl _) hs.env (.p (.sc _)) hdst, hs.fresh, fun j hj hjl => ?_, by rw [put_size]; exact hs.size, by rw [put_defers]; exact hs.defers⟩ (by rw [h2]; exact t2 e) hQ
        have hji : j ≠ i := fun e => by subst e; rw [show (listed.setIfInBounds j true).getD j true = true from hset] at hjl; cases hjl
        rw [show (listed.setIfInBounds i true).getD j true = listed.getD j true from hoth j hji] at hjl
        exact hs.free j hj hjl

theorem WOK.drawn {E : Env} {h : AHeap} {w : World} (hw : WOK E h w) (n : Nat) : WOK E h { w with drawn := n } := ⟨hw.imm, hw.ck, hw.dist⟩

theorem c_region_draw {P : Program} {nt m nb : Nat} {env : AEnv} {h : AHeap} {Q : AQ} {id : Nat} {ops : Array Oper} (D : List Nat) (hmix : P.follows .mixedOrders = true) (hreg : regOK nt ops.toList = true) (hok : drawOK ops.toList D = true)
    (hk : regD P (ops.toList.map (·.dst)) (fun env h => Q .normal env h (nb + ops.size)) nb (strip ops.toList) env h) : ACode P nt m (.region id ops true) env h nb Q := by
  intro E a w hs hm
  refine wp_region_any hmix ?_
  have hnone : ∀ id, nb ≤ id → h id = none := fun id hid => by
    cases hh : h id with
    | none => rfl
    | some ck => have := hs.ok.ck id; rw [hh, hs.fresh id hid] at this; exact absurd rfl this.born
  have hlst : ∀ j, j < ops.size → (Array.replicate ops.size false).getD j true = false := fun j hj => by simp [hj]
  have hrem : remL nb (fun j => (Array.replicate ops.size false).getD j true) 0 (strip ops.toList) = remL nb (fun _ => false) 0 (strip ops.toList) := by
    have key : ∀ (l : List SOp) (k : Nat), k + l.length ≤ ops.size → remL nb (fun j => (Array.replicate ops.size false).getD j true) k l = remL nb (fun _ => false) k l := by
      intro l
      induction l with
      | nil => intro k _; rfl
      | cons o l ih =>
        intro k hk
        simp at hk
        rw [remL, remL, hlst k (by omega), ih (k + 1) (by omega)]
    exact key _ 0 (by simp [strip])
  refine any_wp hreg (drawOK_facts hok) hm ops.size _ E env h a _ (by simp) (Nat.le_trans remL_len (by simp [strip])) (fun i j hi h1 => ?_) ⟨hs.ok.drawn _, hs.env, fun id hid => hs.fresh id (by omega), fun j _ _ => hs.fresh _ (by omega), hs.size, hs.defers⟩ ?_
    (fun E' env' h' a' w' h1 h2 h3 => ⟨E', .normal, env', h', nb + ops.size, h1, by omega, trivial, h2, ⟨h3.I, h3.ch, h3.size, h3.frame, h3.imm, h3.owned, h3.same⟩⟩)
  · rw [hlst i hi] at h1; cases h1
  · rw [hrem]
    exact regD_TDs (k := 0) (by simpa using hnone) hk

theorem cs_draw {P : Program} {nt m nb : Nat} {env : AEnv} {h : AHeap} {Q : AQ} {cs : List Code} {id : Nat} {ops : Array Oper} (D : List Nat) (hmix : P.follows .mixedOrders = true) (hreg : regOK nt ops.toList = true) (hok : drawOK ops.toList D = true)
    (hk : regD P (ops.toList.map (·.dst)) (fun env h => ACs P nt m cs Q env h (nb + ops.size)) nb (strip ops.toList) env h) : ACs P nt m (.region id ops true :: cs) Q env h nb :=
  c_region_draw D hmix hreg hok hk

end Go.Ab
