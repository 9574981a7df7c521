/- From the contract of a law to its row: a law of which the abstract layer says that it tells true, tells true, and all that was there lies there as it did. No condition. -/
import Derived.Test.YtohmjbgcmccplaaB1
import Derived.ChangeCalls
namespace Go.Ab
open Go Go.ChangeShapes Go.WideShapes Go.ChangeAt Go.RowKit

section
variable {H : Type} {enc : TypeId × Value → H} {P : Program} {w : World}

/-- An argument that is no struct. -/
theorem given_int {b0 : Nat} {t : TypeId} {k : IntKind} {v : Value} {d : DataW H} {ps : List MemPlace} {sp : Nat → Bool} (ht : P.underlying t = some (.int k)) (hval : Value.okWide P w .any b0 t v)
    (hd : DataW.Trod enc P w 0 sp true t v d ps) : ∃ z, (Lit.int k z).wf = true ∧ v = .int k z := by
  obtain ⟨z, h1, -, -, h2⟩ := open_int ht hval hd
  exact ⟨z, h2, h1⟩

theorem given_slice {b0 n : Nat} {t e : TypeId} {es : List Sh} {v : Value} {d : DataW H} {ps : List MemPlace} {sp : Nat → Bool} (hsh : shapeOf P n t = some [.sl es]) (ht : P.underlying t = some (.slice e)) (hc : P.cellsOf t = 1) (hval : Value.okWide P w .any b0 t v)
    (hd : DataW.Trod enc P w 0 sp true t v d ps) : ∃ rows, Fit (.sl es) (.fro rows) ∧ Rep (wI w) (.p (.fro rows)) v := by
  obtain ⟨a, len, cap, rfl⟩ := okWide_slice ht hval
  obtain ⟨fuel, hf⟩ := hd
  obtain ⟨r, h1, h2⟩ := read_shape n t _ fuel _ _ hsh hf (by rw [hc]; rfl)
  obtain ⟨x, hx⟩ : ∃ x, r[0]? = some x := by
    obtain ⟨hl, -⟩ := h1
    exact ⟨r[0]'(by rw [hl]; simp), List.getElem?_eq_getElem _⟩
  have h3 := h1.2 0 _ x rfl hx
  obtain ⟨v, h4, h5, -⟩ := h2 0 x hx
  simp [Value.cells] at h4
  subst h4
  cases h3 with
  | sl _ rows hl ha hb => exact ⟨rows, .sl _ rows hl ha hb, .p h5⟩

theorem given_struct {b0 n : Nat} {t : TypeId} {fs : Array Field} {es : List Sh} {v : Value} {d : DataW H} {ps : List MemPlace} {sp : Nat → Bool} (hsh : shapeOf P n t = some es) (ht : P.underlying t = some (.struct fs)) (hval : Value.okWide P w .any b0 t v)
    (hd : DataW.Trod enc P w 0 sp true t v d ps) : ∃ r, FitL es r ∧ Rep (wI w) (.agg (r.map .p)) v := by
  obtain ⟨cs, rfl, hsz⟩ := okWide_struct ht hval
  obtain ⟨fuel, hf⟩ := hd
  obtain ⟨r, h1, h2⟩ := read_shape n t _ fuel _ _ hsh hf (by simp [Value.cells, hsz])
  have hel : es.length = P.cellsOf t := by
    obtain ⟨n', rfl⟩ : ∃ n', n = n' + 1 := by cases n with | zero => cases hsh | succ n => exact ⟨n, rfl⟩
    unfold shapeOf at hsh
    rw [ht] at hsh
    simp only at hsh
    split at hsh
    · split at hsh
      · rename_i hc
        injection hsh with hsh
        rw [← hsh]; exact hc.symm
      · cases hsh
    · cases hsh
  refine ⟨r, h1, .agg cs (by rw [List.length_map, h1.1, hel]; exact hsz) (fun i => cs[i]?.getD .nilIface) (fun i hi => ?_) (fun i x hx => ?_)⟩
  · have : i < cs.size := by
      rw [List.length_map, h1.1, hel] at hi
      omega
    rw [Array.getElem?_eq_getElem this]
    rfl
  · rw [List.getElem?_map, Option.map_eq_some_iff] at hx
    obtain ⟨y, hy, rfl⟩ := hx
    obtain ⟨v, hv, hr, -⟩ := h2 i y hy
    simp only [Value.cells, Nat.zero_add, Array.getElem?_toList] at hv
    rw [hv]
    exact .p hr

theorem trodAll_stays (hl : laidOutB P = true) {W W' : World} {sp' : Nat → Bool} : ∀ {ts : List TypeId} {vs : List Value} {ds : List (DataW H)} {ps : List MemPlace}, (∀ t, t ∈ ts → P.readableRec t = true ∧ t < P.types.size) →
    DataW.TrodAll enc P W 0 (fun _ => true) true ts vs ds ps → (∀ p ∈ ps, W.sameAt W' p) → (∀ p ∈ ps, sp' p.block = true) → DataW.TrodAll enc P W' 0 sp' true ts vs ds ps
  | [], vs, ds, ps, _, h, _, _ => by
    obtain ⟨rfl, rfl, rfl⟩ := trodAll_nil h
    exact rfl
  | t :: ts, vs, ds, ps, ht, h, h1, h2 => by
    obtain ⟨v, vs1, d, ds1, a, b, rfl, rfl, rfl, h3, h4⟩ := trodAll_cons h
    exact ⟨a, b, WideElems.Trod_stays hl (ht t (by simp)).1 (ht t (by simp)).2 h3 (fun p hp => h1 p (by simp [hp])) (fun p hp => h2 p (by simp [hp])),
      trodAll_stays hl (fun t' h' => ht t' (by simp [h'])) h4 (fun p hp => h1 p (by simp [hp])) (fun p hp => h2 p (by simp [hp])), rfl⟩

end

theorem law_lifted {C : Checked} {os : Os} {f : FuncId} {fn : Func} {s : ChangeSpec} {H : Type} {enc : TypeId × Value → H} {tb : TypeId} (own : ownKnob C.prog.godebug = none) (started : os.Started) (noInit : C.prog.inits.idxOf? f = none) (hfn : C.prog.funcs[f]? = some fn)
    (witness : ∃ (w : World) (tape : Tape) (i : Input), w.os = os ∧ (w.forCall tape i).Shaped C.prog ∧ i.vars = [] ∧ Input.okWide C.prog (w.forCall tape i) .any w.heap.size f i ∧
      s.pre6 enc C.prog fn [] false (w.forCall tape i).memory i.args ∧ ({} : Assume).holds C.prog (lone (Frame.enter C.prog f i.args .normal) [] (w.forCall tape i)))
    (hl : laidOutB C.prog = true) (hp : (fn.params.toList.all fun t => C.prog.readableRec t && decide (t < C.prog.types.size)) = true) (hv : s.vars = [])
    (hr : fn.resultTypes = #[tb]) (hb : C.prog.underlying tb = some .bool)
    (hs : ∀ ds : List (DataW H), ds.length = fn.params.toList.length → s.fn H ds = ⟨[.lit (.bool true)], ds, []⟩)
    (hA : ∀ (W : World) (base : Nat) (args : Array Value) (ds : List (DataW H)) (ps : List MemPlace), (∀ (j : Nat) t v, fn.params[j]? = some t → args[j]? = some v → Value.okWide C.prog W .any base t v) →
      DataW.TrodAll enc C.prog W 0 (fun _ => true) true fn.params.toList args.toList ds ps → ∃ xs, RepL (wI W) xs args.toList ∧ AFun C.prog f xs (.p (.sc (.bool true)))) :
    ReturnsInHanded {} C os f .any (s.pre6 enc C.prog fn [] false) (s.post enc C.prog fn false true false false) := by
  refine returnsInHanded_of_change own started noInit hfn witness ?_
  intro W base args ds gs before hval hW _ _
  have hW' := hW
  obtain ⟨p, q, hA0, hV, rfl, -, -⟩ := hW
  rw [hv] at hV
  obtain ⟨rfl, rfl⟩ := trodVars_none hV
  obtain ⟨xs, hx, hc⟩ := hA W base args ds p hval hA0
  refine (hc (wI W) W args (wok_w W) (fun _ _ => rfl) hx).mono fun e W' he => ?_
  rcases he with ⟨v, E', x, h', rfl, hrep, ⟨rfl, rfl⟩, -, -, ev⟩ | ⟨_, _, _, _, _, h, _⟩
  · have hv1 := hrep.sc_inv
    subst hv1
    have hblk : ∀ g, g < W.heap.size → W'.heap[g]? = W.heap[g]? := fun g hg => ev.frame g hg (fun ⟨id, h1, _⟩ => by cases h1)
    have hsame : ∀ p', p' ∈ p → W.sameAt W' p' := by
      intro p' hp'
      have hlt := hW'.lt p' (by simp [hp'])
      cases p' with
      | cell b off => exact World.cell?_of_block (hblk b hlt)
      | map b => exact hblk b hlt
    have hlen := (trodAll_length hA0).2
    have hsp := hs ds hlen
    refine ⟨_, rfl, ds, [], p ++ [], [], p, [], hW', ?_, ?_, ?_, ⟨ev.same.1, ev.same.2, fun i hi => ?_⟩, fun h => by cases h⟩
    · rw [List.append_nil, hsp, hr]
      exact trodAll_mk1 ⟨1, by simp [DataW.trod, Value.cells, hb]⟩
    · rw [List.append_nil, hsp]
      exact trodAll_stays hl (fun t ht => by
        have := List.all_eq_true.1 hp t ht
        simpa using this) hA0 hsame (fun p' hp' => by simpa using hW'.lt p' (by simp [hp']))
    · rw [List.append_nil, hsp, hv]
      exact rfl
    · rw [hblk i hi]
      cases hh : W.heap[i]? with
      | none => rfl
      | some o =>
        cases o with
        | cells c t fr => exact ⟨rfl, rfl, rfl, fun _ _ => rfl⟩
        | map es clock => exact .inr ⟨rfl, rfl⟩
        | _ => rfl
  · exact h.elim

end Go.Ab
