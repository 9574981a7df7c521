/- The equations by which regions of open order are reckoned. No condition. -/
import Derived.Test.YtohmjbgcmccplaaAb17
set_option linter.unusedVariables false
set_option linter.unusedSimpArgs false
namespace Go.Ab
open Go

section
variable {P : Program} {ds : List (Option Tmp)} {K : AEnv → AHeap → Prop} {nid : Nat} {env : AEnv} {h : AHeap} {l : List SOp}

theorem regD_nil : regD P ds K nid [] env h = K env h := rfl

def conD (P : Program) (ds : List (Option Tmp)) (K : AEnv → AHeap → Prop) (nid : Nat) (r : Option (Prop × AV × AHeap)) (dst : Option Tmp) (l : List SOp) (env : AEnv) : Prop :=
  match r with
  | some (s, x, h') => s ∧ regD P ds K (nid + 1) l (putE env dst x) h'
  | none => False

theorem conD_some {s : Prop} {x : AV} {h' : AHeap} {dst : Option Tmp} : conD P ds K nid (some (s, x, h')) dst l env = (s ∧ regD P ds K (nid + 1) l (putE env dst x) h') := rfl

theorem regD_op {dst : Option Tmp} {op : Op} (ho : isCall op = false) : regD P ds K nid (⟨dst, op, none⟩ :: l) env h = conD P ds K nid (aop P nid env h op) dst l env := by
  simp only [regD, conD, execD]
  cases op <;> try rfl
  · rename_i c
    obtain ⟨callee, args, ats⟩ := c
    cases callee <;> first | rfl | cases ho

theorem regD_move {dst : Option Tmp} {x : Operand} : regD P ds K nid (⟨dst, .move x, none⟩ :: l) env h = conD P ds K nid (aop P nid env h (.move x)) dst l env := regD_op rfl
theorem regD_assign {dst : Option Tmp} {x : Operand} : regD P ds K nid (⟨dst, .assign x, none⟩ :: l) env h = conD P ds K nid (aop P nid env h (.assign x)) dst l env := regD_op rfl
theorem regD_pick {dst : Option Tmp} {c : Operand} {x : Operand} {y : Operand} : regD P ds K nid (⟨dst, .pick c x y, none⟩ :: l) env h = conD P ds K nid (aop P nid env h (.pick c x y)) dst l env := regD_op rfl
theorem regD_alloc {dst : Option Tmp} {t : TypeId} : regD P ds K nid (⟨dst, .alloc t, none⟩ :: l) env h = conD P ds K nid (aop P nid env h (.alloc t)) dst l env := regD_op rfl
theorem regD_box {dst : Option Tmp} {t : TypeId} {x : Operand} : regD P ds K nid (⟨dst, .box t x, none⟩ :: l) env h = conD P ds K nid (aop P nid env h (.box t x)) dst l env := regD_op rfl
theorem regD_build {dst : Option Tmp} {t : TypeId} {ps : Array (Nat × Operand)} : regD P ds K nid (⟨dst, .build t ps, none⟩ :: l) env h = conD P ds K nid (aop P nid env h (.build t ps)) dst l env := regD_op rfl
theorem regD_buildSlice {dst : Option Tmp} {t : TypeId} {n : Nat} {ps : Array (Nat × Operand)} : regD P ds K nid (⟨dst, .buildSlice t n ps, none⟩ :: l) env h = conD P ds K nid (aop P nid env h (.buildSlice t n ps)) dst l env := regD_op rfl
theorem regD_load {dst : Option Tmp} {t : TypeId} {x : Operand} : regD P ds K nid (⟨dst, .load t x, none⟩ :: l) env h = conD P ds K nid (aop P nid env h (.load t x)) dst l env := regD_op rfl
theorem regD_store {dst : Option Tmp} {t : TypeId} {x : Operand} {y : Operand} : regD P ds K nid (⟨dst, .store t x y, none⟩ :: l) env h = conD P ds K nid (aop P nid env h (.store t x y)) dst l env := regD_op rfl
theorem regD_nilCheck {dst : Option Tmp} {x : Operand} : regD P ds K nid (⟨dst, .nilCheck x, none⟩ :: l) env h = conD P ds K nid (aop P nid env h (.nilCheck x)) dst l env := regD_op rfl
theorem regD_binOp {dst : Option Tmp} {b : BinOp} {t : TypeId} {x : Operand} {y : Operand} {t' : TypeId} : regD P ds K nid (⟨dst, .binOp b t x y t', none⟩ :: l) env h = conD P ds K nid (aop P nid env h (.binOp b t x y t')) dst l env := regD_op rfl
theorem regD_unOp {dst : Option Tmp} {u : UnOp} {t : TypeId} {x : Operand} : regD P ds K nid (⟨dst, .unOp u t x, none⟩ :: l) env h = conD P ds K nid (aop P nid env h (.unOp u t x)) dst l env := regD_op rfl
theorem regD_convert {dst : Option Tmp} {t : TypeId} {t' : TypeId} {x : Operand} : regD P ds K nid (⟨dst, .convert t t' x, none⟩ :: l) env h = conD P ds K nid (aop P nid env h (.convert t t' x)) dst l env := regD_op rfl
theorem regD_makeFunc {dst : Option Tmp} {fn : Fn} {xs : Array Operand} {ys : Array Operand} : regD P ds K nid (⟨dst, .makeFunc fn xs ys, none⟩ :: l) env h = conD P ds K nid (aop P nid env h (.makeFunc fn xs ys)) dst l env := regD_op rfl
theorem regD_makeSlice {dst : Option Tmp} {t : TypeId} {x : Operand} {y : Operand} : regD P ds K nid (⟨dst, .makeSlice t x y, none⟩ :: l) env h = conD P ds K nid (aop P nid env h (.makeSlice t x y)) dst l env := regD_op rfl
theorem regD_slice {dst : Option Tmp} {t : TypeId} {x : Operand} {lo : Option Operand} {hi : Option Operand} {mx : Option Operand} : regD P ds K nid (⟨dst, .slice t x lo hi mx, none⟩ :: l) env h = conD P ds K nid (aop P nid env h (.slice t x lo hi mx)) dst l env := regD_op rfl
theorem regD_fieldAddr {dst : Option Tmp} {t : TypeId} {x : Operand} {n : Nat} : regD P ds K nid (⟨dst, .fieldAddr t x n, none⟩ :: l) env h = conD P ds K nid (aop P nid env h (.fieldAddr t x n)) dst l env := regD_op rfl
theorem regD_field {dst : Option Tmp} {t : TypeId} {x : Operand} {n : Nat} : regD P ds K nid (⟨dst, .field t x n, none⟩ :: l) env h = conD P ds K nid (aop P nid env h (.field t x n)) dst l env := regD_op rfl
theorem regD_indexAddr {dst : Option Tmp} {t : TypeId} {x : Operand} {y : Operand} : regD P ds K nid (⟨dst, .indexAddr t x y, none⟩ :: l) env h = conD P ds K nid (aop P nid env h (.indexAddr t x y)) dst l env := regD_op rfl
theorem regD_index {dst : Option Tmp} {t : TypeId} {x : Operand} {y : Operand} : regD P ds K nid (⟨dst, .index t x y, none⟩ :: l) env h = conD P ds K nid (aop P nid env h (.index t x y)) dst l env := regD_op rfl
theorem regD_extract {dst : Option Tmp} {x : Operand} {n : Nat} : regD P ds K nid (⟨dst, .extract x n, none⟩ :: l) env h = conD P ds K nid (aop P nid env h (.extract x n)) dst l env := regD_op rfl
theorem regD_builtin {dst : Option Tmp} {b : Builtin} {xs : Array Operand} {ts : Array TypeId} : regD P ds K nid (⟨dst, .call { callee := .builtin b, args := xs, argTypes := ts }, none⟩ :: l) env h = conD P ds K nid (aop P nid env h (.call { callee := .builtin b, args := xs, argTypes := ts })) dst l env := regD_op rfl

def grdD (P : Program) (ds : List (Option Tmp)) (K : AEnv → AHeap → Prop) (nid : Nat) (r : Option Bool) (j : Nat) (want : Bool) (dst : Option Tmp) (op : Op) (l : List SOp) (env : AEnv) (h : AHeap) : Prop :=
  match r with
  | some b => (b = want → regD P ds K nid (⟨dst, op, none⟩ :: l) (setY ds env j b) h) ∧ (b ≠ want → regD P ds K (nid + 1) l (putE (setY ds env j b) dst (.p (.sc (.tuple #[])))) h)
  | none => False

theorem regD_grd {dst : Option Tmp} {op : Op} {j : Nat} {want : Bool} : regD P ds K nid (⟨dst, op, some (j, want)⟩ :: l) env h = grdD P ds K nid (yld ds env j want) j want dst op l env h := by
  simp only [regD, grdD]
  cases hy : yld ds env j want with
  | none => rfl
  | some b => simp only [setY_eq hy]

theorem grdD_tt {dst : Option Tmp} {op : Op} {j : Nat} : grdD P ds K nid (some true) j true dst op l env h = regD P ds K nid (⟨dst, op, none⟩ :: l) (setY ds env j true) h := by simp [grdD]
theorem grdD_ff {dst : Option Tmp} {op : Op} {j : Nat} : grdD P ds K nid (some false) j false dst op l env h = regD P ds K nid (⟨dst, op, none⟩ :: l) (setY ds env j false) h := by simp [grdD]
theorem grdD_tf {dst : Option Tmp} {op : Op} {j : Nat} : grdD P ds K nid (some true) j false dst op l env h = regD P ds K (nid + 1) l (putE (setY ds env j true) dst (.p (.sc (.tuple #[])))) h := by simp [grdD]
theorem grdD_ft {dst : Option Tmp} {op : Op} {j : Nat} : grdD P ds K nid (some false) j true dst op l env h = regD P ds K (nid + 1) l (putE (setY ds env j false) dst (.p (.sc (.tuple #[])))) h := by simp [grdD]

theorem grdD_b {dst : Option Tmp} {op : Op} {j : Nat} {want b : Bool} (ht : b = true → grdD P ds K nid (some true) j want dst op l env h) (hf : b = false → grdD P ds K nid (some false) j want dst op l env h) :
    grdD P ds K nid (some b) j want dst op l env h := by
  cases b
  · exact hf rfl
  · exact ht rfl

theorem grdD_dec {dst : Option Tmp} {op : Op} {j : Nat} {want : Bool} {p : Prop} [Decidable p] (ht : p → grdD P ds K nid (some true) j want dst op l env h) (hf : ¬ p → grdD P ds K nid (some false) j want dst op l env h) :
    grdD P ds K nid (some (decide p)) j want dst op l env h :=
  grdD_b (fun e => ht (of_decide_eq_true e)) (fun e => hf (of_decide_eq_false e))

theorem regD_call {dst : Option Tmp} {fo : Operand} {args : Array Operand} {ats : Array TypeId} {f : FuncId} {caps : List AV} {largs : List AV} {x : AV} (hf : calleeA env fo = some (f, caps)) (hcall : AFun P f largs x) (hc : callable P f = true)
    (hargs : normL (args.toList.map (ev env) ++ caps) = largs) (hids : idsLtL 0 largs) (hx : idsLt 0 x) (hk : regD P ds K (nid + 1) l (putE env dst x) h) :
    regD P ds K nid (⟨dst, .call { callee := .value fo, args, argTypes := ats }, none⟩ :: l) env h := by
  subst hargs
  simp only [regD, execD, callD, hf]
  exact ⟨hc, x, hcall, hids, hx, hk⟩
end

attribute [push_cast] regD_nil conD_some regD_move regD_assign regD_pick regD_alloc regD_box regD_build regD_buildSlice regD_load regD_store regD_nilCheck regD_binOp regD_unOp regD_convert regD_makeFunc regD_makeSlice regD_slice regD_fieldAddr regD_field regD_indexAddr regD_index regD_extract regD_builtin regD_grd grdD_tt grdD_ff grdD_tf grdD_ft

section
variable {P : Program} {nt m nb : Nat} {env : AEnv} {h : AHeap} {Q : AQ} {cs : List Code} {x y : Code}
theorem condK_nd {p : Prop} [Decidable p] (ht : ¬ p → ACs P nt m (x :: cs) Q env h nb) (hf : p → ACs P nt m (y :: cs) Q env h nb) : condK P nt m (.p (.sc (.bool (!decide p)))) x y cs Q env h nb :=
  ⟨fun e => ht (by simpa using e), fun e => hf (by simpa using e)⟩
theorem condK_nb {b : Bool} (ht : b = false → ACs P nt m (x :: cs) Q env h nb) (hf : b = true → ACs P nt m (y :: cs) Q env h nb) : condK P nt m (.p (.sc (.bool (!b)))) x y cs Q env h nb :=
  ⟨fun e => ht (by simpa using e), fun e => hf (by simpa using e)⟩
end

section
variable {P : Program} {ds : List (Option Tmp)} {K : AEnv → AHeap → Prop} {Kp : AV → Prop} {nid : Nat} {env : AEnv} {h : AHeap} {l : List SOp} {dst : Option Tmp} {op : Op} {j : Nat} {want : Bool}
theorem grdK_nd {p : Prop} [Decidable p] (ht : ¬ p → grdK P ds K Kp nid (some true) j want dst op l env h) (hf : p → grdK P ds K Kp nid (some false) j want dst op l env h) :
    grdK P ds K Kp nid (some (!decide p)) j want dst op l env h := grdK_b (fun e => ht (by simpa using e)) (fun e => hf (by simpa using e))
theorem grdK_nb {b : Bool} (ht : b = false → grdK P ds K Kp nid (some true) j want dst op l env h) (hf : b = true → grdK P ds K Kp nid (some false) j want dst op l env h) :
    grdK P ds K Kp nid (some (!b)) j want dst op l env h := grdK_b (fun e => ht (by simpa using e)) (fun e => hf (by simpa using e))
end

/-! ### Numbers and the values that hold them -/

def i64 (n : Int) : AV := .p (.sc (.int .i64 n))
def i32 (n : Int) : AV := .p (.sc (.int .i32 n))
def boolA (b : Bool) : AV := .p (.sc (.bool b))
/-- A list of rows that holds bytes. -/
def byteR (b : List Int) : List (List PV) := b.map fun x => [.sc (.int .u8 x)]
/-- A list of rows that holds ints. -/
def intR (b : List Int) : List (List PV) := b.map fun x => [.sc (.int .i64 x)]
def bytesA (b : List Int) : AV := .p (.fro (byteR b))
def intsA (b : List Int) : AV := .p (.fro (intR b))

theorem byteR_len (b : List Int) : (byteR b).length = b.length := by simp [byteR]
theorem intR_len (b : List Int) : (intR b).length = b.length := by simp [intR]
theorem byteR_at (b : List Int) (k : Nat) (h : k < b.length) : (byteR b).getD k [] = [.sc (.int .u8 (b.getD k 0))] := by simp [byteR, h]
theorem intR_at (b : List Int) (k : Nat) (h : k < b.length) : (intR b).getD k [] = [.sc (.int .i64 (b.getD k 0))] := by simp [intR, h]
theorem byteR_cut (b : List Int) (i j : Nat) : ((byteR b).take j).drop i = byteR ((b.take j).drop i) := by simp [byteR, List.map_drop, List.map_take]
theorem byteR_drop (b : List Int) (i : Nat) : (byteR b).drop i = byteR (b.drop i) := by simp [byteR, List.map_drop]
theorem byteR_take (b : List Int) (i : Nat) : (byteR b).take i = byteR (b.take i) := by simp [byteR, List.map_take]
theorem intR_drop (b : List Int) (i : Nat) : (intR b).drop i = intR (b.drop i) := by simp [intR, List.map_drop]
theorem intR_take (b : List Int) (i : Nat) : (intR b).take i = intR (b.take i) := by simp [intR, List.map_take]

theorem byteR_one (b : List Int) : (∀ r : List PV, r ∈ byteR b → r.length = 1) = True := by simp [byteR]
theorem intR_one (b : List Int) : (∀ r : List PV, r ∈ intR b → r.length = 1) = True := by simp [intR]
theorem one_int {k : IntKind} {n : Int} : (Value.int k n).oneCell' = true := rfl
theorem one_bool {b : Bool} : (Value.bool b).oneCell' = true := rfl
theorem intR_nil : intR [] = [] := rfl
theorem byteR_nil : byteR [] = [] := rfl
theorem intR_snoc (l : List Int) (x : Int) : intR l ++ [[.sc (.int .i64 x)]] = intR (l ++ [x]) := by simp [intR]
theorem cells_int {k : IntKind} {n : Int} : (Value.int k n).cells = #[Value.int k n] := rfl
theorem cells_bool {b : Bool} : (Value.bool b).cells = #[Value.bool b] := rfl
theorem cells_agg {l : Array Value} : (Value.agg l).cells = l := rfl
attribute [push_cast] cells_int cells_bool cells_agg List.toList_toArray
attribute [push_cast] one_int one_bool intR_nil byteR_nil
attribute [push_cast] byteR_one intR_one byteR_drop byteR_take intR_drop intR_take

attribute [push_cast] i64 i32 boolA bytesA intsA byteR_len intR_len

end Go.Ab
