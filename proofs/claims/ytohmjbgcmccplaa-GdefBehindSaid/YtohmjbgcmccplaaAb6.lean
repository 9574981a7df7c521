/- Abstract operations on memory: stores, pieces, literals, new slices, append. No condition. -/
import Derived.Test.YtohmjbgcmccplaaAb5
import Derived.Laws.MakeOwn
import Derived.Laws.OwnMore
import Derived.Great.FillDense
set_option linter.unusedVariables false
set_option linter.unusedSimpArgs false
namespace Go.Ab
open Go

def toPV : AV → Option PV
  | .p x => some x
  | .nil => some (.fro [])
  | _ => none

def pvs : List AV → Option (List PV)
  | [] => some []
  | x :: xs => match toPV x, pvs xs with
    | some y, some ys => some (y :: ys)
    | _, _ => none

theorem toPV_rep {E : Env} {x : AV} {v : Value} {y : PV} (h : Rep E x v) (hy : toPV x = some y) : RepI E.I y v := by
  unfold toPV at hy
  split at hy
  · injection hy with hy; subst hy; cases h with | p h => exact h
  · injection hy with hy; subst hy; cases h; exact .nil
  · cases hy

theorem pvs_rep {E : Env} : ∀ {xs : List AV} {vs : List Value} {ys : List PV}, RepL E xs vs → pvs xs = some ys → ys.length = vs.length ∧ ∀ (i : Nat) (y : PV), ys[i]? = some y → ∃ v, vs[i]? = some v ∧ RepI E.I y v
  | [], vs, ys, h, hp => by
    injection hp with hp
    subst hp
    exact ⟨h.1, fun i y hy => by simp at hy⟩
  | x :: xs, vs, ys, h, hp => by
    simp only [pvs] at hp
    split at hp
    · rename_i y ys' e1 e2
      injection hp with hp
      subst hp
      match vs, h with
      | v :: vs, h =>
        have h0 := h.2 0 x rfl
        obtain ⟨v', hv', hr⟩ := h0
        simp at hv'
        subst hv'
        have ht : RepL E xs vs := ⟨by have := h.1; simpa using this, fun i z hz => by obtain ⟨u, hu, hr⟩ := h.2 (i + 1) z (by simpa using hz); exact ⟨u, by simpa using hu, hr⟩⟩
        obtain ⟨g1, g2⟩ := pvs_rep ht e2
        refine ⟨by simp [g1], fun i y' hy' => ?_⟩
        cases i with
        | zero => simp at hy'; subst hy'; exact ⟨v, by simp, toPV_rep hr e1⟩
        | succ i => simp at hy'; obtain ⟨u, hu, hr⟩ := g2 i y' hy'; exact ⟨u, by simpa using hu, hr⟩
    · cases hp

theorem RepL.splice {E : Env} {xs ys : List AV} {vs us : List Value} (h : RepL E xs vs) (h' : RepL E ys us) {off : Nat} (hle : off + ys.length ≤ xs.length) :
    RepL E (xs.take off ++ ys ++ xs.drop (off + ys.length)) (vs.take off ++ us ++ vs.drop (off + us.length)) := by
  have e1 := h.1
  have e2 := h'.1
  refine ⟨by simp; omega, fun i x hx => ?_⟩
  by_cases h1 : i < off
  · rw [List.append_assoc, List.getElem?_append_left (by simp; omega), List.getElem?_take_of_lt h1] at hx
    obtain ⟨v, hv, hr⟩ := h.2 i x hx
    exact ⟨v, by rw [List.append_assoc, List.getElem?_append_left (by simp; omega), List.getElem?_take_of_lt h1]; exact hv, hr⟩
  · by_cases h2 : i < off + ys.length
    · rw [List.append_assoc, List.getElem?_append_right (by simp; omega), List.length_take, Nat.min_eq_left (by omega), List.getElem?_append_left (by omega)] at hx
      obtain ⟨v, hv, hr⟩ := h'.2 _ x hx
      exact ⟨v, by rw [List.append_assoc, List.getElem?_append_right (by simp; omega), List.length_take, Nat.min_eq_left (by omega), List.getElem?_append_left (by omega)]; exact hv, hr⟩
    · rw [List.append_assoc, List.getElem?_append_right (by simp; omega), List.length_take, Nat.min_eq_left (by omega), List.getElem?_append_right (by omega), List.getElem?_drop] at hx
      obtain ⟨v, hv, hr⟩ := h.2 _ x hx
      refine ⟨v, ?_, hr⟩
      rw [List.append_assoc, List.getElem?_append_right (by simp; omega), List.length_take, Nat.min_eq_left (by omega), List.getElem?_append_right (by omega), List.getElem?_drop, ← e2]
      exact hv

theorem take_splice (cur vs : List Value) (n p : Nat) (h : p + vs.length ≤ n) (hn : n ≤ cur.length) :
    (cur.take p ++ vs ++ cur.drop (p + vs.length)).take n = (cur.take n).take p ++ vs ++ (cur.take n).drop (p + vs.length) := by
  have hp : p ≤ cur.length := by omega
  rw [List.append_assoc, List.append_assoc, List.take_append, List.take_append, List.take_take, List.take_take, List.drop_take, List.length_take, Nat.min_eq_left hp, Nat.min_eq_right (by omega), Nat.min_eq_left (by omega), List.take_of_length_le (l := vs) (by omega)]
  congr 3
  omega

/-! ### Stores -/

def storeA (h : AHeap) (y : TyF) (x v : AV) : Option AHeap :=
  match x, cellsL v with
  | .ptr id off, some cs => match h id with
    | some (.box t cells) => if cs.length = y.size ∧ off + cs.length ≤ cells.length then some (upd h id (some (.box t (cells.take off ++ cs ++ cells.drop (off + cs.length))))) else none
    | _ => none
  | .apt id sz i j, some cs => match h id, pvs cs with
    | some (.arr e sz' rows), some ps => match rows[i]? with
      | some row => if sz = sz' ∧ ps.length = y.size ∧ j + ps.length ≤ row.length then some (upd h id (some (.arr e sz' (rows.set i (row.take j ++ ps ++ row.drop (j + ps.length)))))) else none
      | none => none
    | _, _ => none
  | _, _ => none

theorem storeT {P : Program} {w : World} {t : TypeId} {y : TyF} (ht : tyf P t = some y) {g off : Nat} {te : TypeId} {cur : Array Value} {v : Value} (hg : w.heap[g]? = some (.cells cur te (0, 0)))
    (hs : v.cells.size = y.size) (hle : off + v.cells.size ≤ cur.size) (h1 : v.cells.all (·.oneCell') = true) :
    (storeVar t ⟨g, off, none⟩ v).run P w = .ok () (w.setRow g (cur.toList.take off ++ v.cells.toList ++ cur.toList.drop (off + v.cells.toList.length)).toArray) := by
  have hsz := run_sizeT ht w
  have := run_storeCells_at P g off te v.cells.toList 0 cur w hg (by simpa using hle) (fun u hu => Array.all_eq_true_iff_forall_mem.1 h1 u (by simpa using hu))
  simp only [Nat.add_zero] at this
  simp [storeVar, hsz, hs, this]

section
variable {P : Program} {nid : Nat} {E : Env} {h : AHeap} {w : World} {o : Oper} {a : Act} {env : AEnv}
variable (hw : WOK E h w) (henv : ∀ k, Rep E (env k) (a.tmps.getD k undef))
include hw henv

theorem sim_store {t : TypeId} {y : TyF} {x v : Operand} {h' : AHeap} (ho : o.op = .store t x v) (ht : tyf P t = some y) (hr : storeA h y (ev env x) (ev env v) = some h') : OpSim P nid E h w o a .any h' := by
  have hx := Rep.ev henv x
  have hv := Rep.ev henv v
  generalize ev env x = X at hx hr
  generalize ev env v = V at hv hr
  generalize hq : a.eval x = vx at hx
  generalize hu : a.eval v = vv at hv
  unfold storeA at hr
  split at hr
  · rename_i id off cs hcs
    obtain ⟨hl, hone⟩ := cellsL_rep hv hcs
    split at hr
    · rename_i te cells hid
      split at hr
      · rename_i hc
        injection hr with hr
        subst hr
        have hk := hw.ck id
        rw [hid] at hk
        obtain ⟨g, vs, e1, hg, hs, hcl, hI⟩ := hk
        cases hx with
        | ptrd q hd => rw [e1] at hd; cases hd
        | ptr hb =>
          rw [e1] at hb
          injection hb with hb
          subst hb
          have hlen : vv.cells.size = cs.length := by simpa using hl.1.symm
          have hrun := storeT (P := P) (w := w) ht (off := off) (v := vv) hg (by rw [hlen]; exact hc.1) (by rw [hlen, hs]; exact hc.2) hone
          have hcells : RepL E cells vs.toList := ⟨by simp [hs], fun i z hz => by obtain ⟨u, hu, hh⟩ := hcl i z hz; exact ⟨u, by simpa using hu, hh⟩⟩
          have hsp := hcells.splice hl hc.2
          have hb : ∀ g', g' ≠ g → (w.setRow g (vs.toList.take off ++ vv.cells.toList ++ vs.toList.drop (off + vv.cells.toList.length)).toArray).heap[g']? = w.heap[g']? := fun g' hne => setRow_other w g g' _ hne
          refine ⟨undef, _, E, .inr ⟨?_, rfl⟩, .any _, .refl _ _, ?_, .touch (g := g) (by rw [hid]; rfl) (by rw [e1]; rfl) (by simp) hb⟩
          · simp [execOp, ho, hq, hu, Instr.storeAt, Instr.sureAddr, hrun]
          · refine hw.touch (g := g) (by rw [hid]; rfl) (by rw [e1]; rfl) hb ?_
            rw [e1]
            refine ⟨g, _, rfl, setRow_heap w g _ _ _ _ hg, by simpa using hsp.1.symm, fun j z hz => ?_, hI⟩
            obtain ⟨u, hu, hh⟩ := hsp.2 j z hz
            exact ⟨u, by simpa using hu, hh⟩
      · cases hr
    · cases hr
  · rename_i id sz i j cs hcs
    obtain ⟨hl, hone⟩ := cellsL_rep hv hcs
    split at hr
    · rename_i e' sz' rows ps hid hps
      split at hr
      · rename_i row hrow
        split at hr
        · rename_i hc
          obtain ⟨hc1, hc2, hc3⟩ := hc
          subst hc1
          injection hr with hr
          subst hr
          have hk := hw.ck id
          rw [hid] at hk
          obtain ⟨sv, e1, xs, hown, hlen, hxs, hones, hnone⟩ := hk
          obtain ⟨p1, p2⟩ := pvs_rep hl hps
          cases hx with
          | aptd q hd => rw [e1] at hd; cases hd
          | @apt _ _ _ _ n c g off hb =>
            rw [e1] at hb
            injection hb with hb
            subst hb
            rcases hown.2 with ⟨hh, _⟩ | ⟨g', cap, cur, he, -, hg, hn, hm, hcs', htake⟩
            · cases hh
            · injection he with he1 he2 he3
              injection he1 with he1
              injection he1 with he1 he4
              subst he1; subst he4; subst he3; subst he2
              have hrl := hlen row (List.mem_of_getElem? hrow)
              have hil : i < rows.length := (List.getElem?_eq_some_iff.1 hrow).1
              have hle : i * sz + sz ≤ rows.length * sz := by
                have := Nat.mul_le_mul_right sz (show i + 1 ≤ rows.length by omega)
                rw [Nat.add_mul] at this; omega
              have hle2 : rows.length * sz ≤ c * sz := Nat.mul_le_mul_right sz hn
              have hxl := hown.1
              have hlv : vv.cells.size = ps.length := by simpa using p1.symm
              have hrun := storeT (P := P) (w := w) ht (off := i * sz + j) (v := vv) hg (by rw [hlv]; exact hc2) (by rw [hlv, hcs']; omega) hone
              have hb : ∀ g', g' ≠ g → (w.setRow g (cur.toList.take (i * sz + j) ++ vv.cells.toList ++ cur.toList.drop (i * sz + j + vv.cells.toList.length)).toArray).heap[g']? = w.heap[g']? := fun g' hne => setRow_other w g g' _ hne
              refine ⟨undef, _, E, .inr ⟨?_, rfl⟩, .any _, .refl _ _, ?_, .touch (g := g) (by rw [hid]; rfl) (by rw [e1]; rfl) (by simp) hb⟩
              · simp [execOp, ho, hq, hu, Instr.storeAt, Instr.sureAddr, hrun]
              · refine hw.touch (g := g) (by rw [hid]; rfl) (by rw [e1]; rfl) hb ?_
                rw [e1]
                have hvl : vv.cells.toList.length = ps.length := by simpa using hlv
                have hxe : xs.length = rows.length * sz := hxl
                refine ⟨_, rfl, xs.take (i * sz + j) ++ vv.cells.toList ++ xs.drop (i * sz + j + vv.cells.toList.length), ⟨?_, .inr ⟨g, c, _, ?_, Nat.zero_le _, setRow_heap w g _ _ _ _ hg, ?_, hm, ?_, ?_⟩⟩, ?_, ?_, ?_, ?_⟩
                · simp only [List.length_append, List.length_take, List.length_drop, List.length_set, hvl]; omega
                · rw [List.length_set]
                · rw [List.length_set]; exact hn
                · simp only [List.size_toArray, List.length_append, List.length_take, List.length_drop, Array.length_toList, hvl, hcs']; omega
                · rw [List.length_set]
                  have e := take_splice cur.toList vv.cells.toList (rows.length * sz) (i * sz + j) (by rw [hvl]; omega) (by simp [hcs']; omega)
                  rw [htake] at e
                  simpa using e
                · intro r hr
                  rcases List.mem_or_eq_of_mem_set hr with hr | hr
                  · exact hlen r hr
                  · subst hr
                    simp only [List.length_append, List.length_take, List.length_drop]
                    omega
                · intro i' j' r x hr hx
                  by_cases hii : i' = i
                  · subst hii
                    rw [List.getElem?_set_self (by exact hil)] at hr
                    injection hr with hr
                    subst hr
                    have hj' : j' < sz := by
                      have := (List.getElem?_eq_some_iff.1 hx).1
                      simp only [List.length_append, List.length_take, List.length_drop] at this
                      omega
                    by_cases h1 : j' < j
                    · rw [List.append_assoc, List.getElem?_append_left (by simp; omega), List.getElem?_take_of_lt h1] at hx
                      obtain ⟨u, hu, hr⟩ := hxs i' j' row x hrow hx
                      exact ⟨u, by rw [List.append_assoc, List.getElem?_append_left (by simp; omega), List.getElem?_take_of_lt (by omega)]; exact hu, hr⟩
                    · by_cases h2 : j' < j + ps.length
                      · rw [List.append_assoc, List.getElem?_append_right (by simp; omega), List.length_take, Nat.min_eq_left (by omega), List.getElem?_append_left (by omega)] at hx
                        obtain ⟨u, hu, hr⟩ := p2 _ x hx
                        exact ⟨u, by rw [List.append_assoc, List.getElem?_append_right (by simp; omega), List.length_take, Nat.min_eq_left (by omega), List.getElem?_append_left (by omega)]; rw [← hu]; congr 1; omega, hr⟩
                      · rw [List.append_assoc, List.getElem?_append_right (by simp; omega), List.length_take, Nat.min_eq_left (by omega), List.getElem?_append_right (by omega), List.getElem?_drop] at hx
                        obtain ⟨u, hu, hr⟩ := hxs i' _ row x hrow hx
                        refine ⟨u, ?_, hr⟩
                        rw [List.append_assoc, List.getElem?_append_right (by simp; omega), List.length_take, Nat.min_eq_left (by omega), List.getElem?_append_right (by omega), List.getElem?_drop, hvl, ← hu]
                        congr 1
                        omega
                  · rw [List.getElem?_set_ne (Ne.symm hii)] at hr
                    obtain ⟨u, hu, hrr⟩ := hxs i' j' r x hr hx
                    have hrl' := hlen r (List.mem_of_getElem? hr)
                    have hj' : j' < sz := by have := (List.getElem?_eq_some_iff.1 hx).1; omega
                    refine ⟨u, ?_, hrr⟩
                    by_cases hlt : i' < i
                    · have hle' : i' * sz + sz ≤ i * sz := by
                        have := Nat.mul_le_mul_right sz (show i' + 1 ≤ i by omega)
                        rw [Nat.add_mul] at this; omega
                      rw [List.append_assoc, List.getElem?_append_left (by simp; omega), List.getElem?_take_of_lt (by omega)]
                      exact hu
                    · have hle' : i * sz + sz ≤ i' * sz := by
                        have := Nat.mul_le_mul_right sz (show i + 1 ≤ i' by omega)
                        rw [Nat.add_mul] at this; omega
                      rw [List.append_assoc, List.getElem?_append_right (by simp; omega), List.length_take, Nat.min_eq_left (by omega), List.getElem?_append_right (by omega), List.getElem?_drop, hvl, ← hu]
                      congr 1
                      omega
                · intro u hu
                  simp only [List.mem_append] at hu
                  rcases hu with (hu | hu) | hu
                  · exact hones u (List.mem_of_mem_take hu)
                  · exact Array.all_eq_true_iff_forall_mem.1 hone u (by simpa using hu)
                  · exact hones u (List.mem_of_mem_drop hu)
                · exact hnone
        · cases hr
      · cases hr
    · cases hr
  · cases hr
end

end Go.Ab
