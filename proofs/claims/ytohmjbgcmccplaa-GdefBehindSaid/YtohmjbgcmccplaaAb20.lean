/- Regions as the program's own lists of operations; where the reckoning may leave a term alone. No condition. -/
import Derived.Test.YtohmjbgcmccplaaAb19
set_option linter.unusedVariables false
set_option linter.unusedSimpArgs false
namespace Go.Ab
open Go

section
variable {P : Program} {ds : List (Option Tmp)} {K : AEnv → AHeap → Prop} {Kp : AV → Prop} {nid : Nat} {env : AEnv} {h : AHeap} {l : List Oper}

def regO (P : Program) (ds : List (Option Tmp)) (K : AEnv → AHeap → Prop) (Kp : AV → Prop) (nid : Nat) (l : List Oper) (env : AEnv) (h : AHeap) : Prop := regK P ds K Kp nid (strip l) env h
def conO (P : Program) (ds : List (Option Tmp)) (K : AEnv → AHeap → Prop) (Kp : AV → Prop) (nid : Nat) (r : Option (Prop × AV × AHeap)) (dst : Option Tmp) (l : List Oper) (env : AEnv) : Prop := contK P ds K Kp nid r dst (strip l) env
def grdO (P : Program) (ds : List (Option Tmp)) (K : AEnv → AHeap → Prop) (Kp : AV → Prop) (nid : Nat) (r : Option Bool) (j : Nat) (want : Bool) (dst : Option Tmp) (op : Op) (l : List Oper) (env : AEnv) (h : AHeap) : Prop := grdK P ds K Kp nid r j want dst op (strip l) env h

theorem regO_nil : regO P ds K Kp nid [] env h = K env h := rfl
theorem conO_some {s : Prop} {x : AV} {h' : AHeap} {dst : Option Tmp} : conO P ds K Kp nid (some (s, x, h')) dst l env = (s ∧ regO P ds K Kp (nid + 1) l (putE env dst x) h') := rfl
theorem regO_move {dst : Option Tmp} {ty : TypeId} {pos : String} {af : Array Edge} {x : Operand} : regO P ds K Kp nid (⟨dst, .move x, ty, pos, af, none⟩ :: l) env h = conO P ds K Kp nid (aop P nid env h (.move x)) dst l env := regK_op rfl
theorem regO_assign {dst : Option Tmp} {ty : TypeId} {pos : String} {af : Array Edge} {x : Operand} : regO P ds K Kp nid (⟨dst, .assign x, ty, pos, af, none⟩ :: l) env h = conO P ds K Kp nid (aop P nid env h (.assign x)) dst l env := regK_op rfl
theorem regO_pick {dst : Option Tmp} {ty : TypeId} {pos : String} {af : Array Edge} {c x y : Operand} : regO P ds K Kp nid (⟨dst, .pick c x y, ty, pos, af, none⟩ :: l) env h = conO P ds K Kp nid (aop P nid env h (.pick c x y)) dst l env := regK_op rfl
theorem regO_alloc {dst : Option Tmp} {ty : TypeId} {pos : String} {af : Array Edge} {t : TypeId} : regO P ds K Kp nid (⟨dst, .alloc t, ty, pos, af, none⟩ :: l) env h = conO P ds K Kp nid (aop P nid env h (.alloc t)) dst l env := regK_op rfl
theorem regO_box {dst : Option Tmp} {ty : TypeId} {pos : String} {af : Array Edge} {t : TypeId} {x : Operand} : regO P ds K Kp nid (⟨dst, .box t x, ty, pos, af, none⟩ :: l) env h = conO P ds K Kp nid (aop P nid env h (.box t x)) dst l env := regK_op rfl
theorem regO_build {dst : Option Tmp} {ty : TypeId} {pos : String} {af : Array Edge} {t : TypeId} {ps : Array (Nat × Operand)} : regO P ds K Kp nid (⟨dst, .build t ps, ty, pos, af, none⟩ :: l) env h = conO P ds K Kp nid (aop P nid env h (.build t ps)) dst l env := regK_op rfl
theorem regO_buildSlice {dst : Option Tmp} {ty : TypeId} {pos : String} {af : Array Edge} {t : TypeId} {n : Nat} {ps : Array (Nat × Operand)} : regO P ds K Kp nid (⟨dst, .buildSlice t n ps, ty, pos, af, none⟩ :: l) env h = conO P ds K Kp nid (aop P nid env h (.buildSlice t n ps)) dst l env := regK_op rfl
theorem regO_load {dst : Option Tmp} {ty : TypeId} {pos : String} {af : Array Edge} {t : TypeId} {x : Operand} : regO P ds K Kp nid (⟨dst, .load t x, ty, pos, af, none⟩ :: l) env h = conO P ds K Kp nid (aop P nid env h (.load t x)) dst l env := regK_op rfl
theorem regO_store {dst : Option Tmp} {ty : TypeId} {pos : String} {af : Array Edge} {t : TypeId} {x y : Operand} : regO P ds K Kp nid (⟨dst, .store t x y, ty, pos, af, none⟩ :: l) env h = conO P ds K Kp nid (aop P nid env h (.store t x y)) dst l env := regK_op rfl
theorem regO_nilCheck {dst : Option Tmp} {ty : TypeId} {pos : String} {af : Array Edge} {x : Operand} : regO P ds K Kp nid (⟨dst, .nilCheck x, ty, pos, af, none⟩ :: l) env h = conO P ds K Kp nid (aop P nid env h (.nilCheck x)) dst l env := regK_op rfl
theorem regO_binOp {dst : Option Tmp} {ty : TypeId} {pos : String} {af : Array Edge} {b : BinOp} {t : TypeId} {x y : Operand} {t' : TypeId} : regO P ds K Kp nid (⟨dst, .binOp b t x y t', ty, pos, af, none⟩ :: l) env h = conO P ds K Kp nid (aop P nid env h (.binOp b t x y t')) dst l env := regK_op rfl
theorem regO_unOp {dst : Option Tmp} {ty : TypeId} {pos : String} {af : Array Edge} {u : UnOp} {t : TypeId} {x : Operand} : regO P ds K Kp nid (⟨dst, .unOp u t x, ty, pos, af, none⟩ :: l) env h = conO P ds K Kp nid (aop P nid env h (.unOp u t x)) dst l env := regK_op rfl
theorem regO_convert {dst : Option Tmp} {ty : TypeId} {pos : String} {af : Array Edge} {t t' : TypeId} {x : Operand} : regO P ds K Kp nid (⟨dst, .convert t t' x, ty, pos, af, none⟩ :: l) env h = conO P ds K Kp nid (aop P nid env h (.convert t t' x)) dst l env := regK_op rfl
theorem regO_makeFunc {dst : Option Tmp} {ty : TypeId} {pos : String} {af : Array Edge} {fn : Fn} {xs ys : Array Operand} : regO P ds K Kp nid (⟨dst, .makeFunc fn xs ys, ty, pos, af, none⟩ :: l) env h = conO P ds K Kp nid (aop P nid env h (.makeFunc fn xs ys)) dst l env := regK_op rfl
theorem regO_makeSlice {dst : Option Tmp} {ty : TypeId} {pos : String} {af : Array Edge} {t : TypeId} {x y : Operand} : regO P ds K Kp nid (⟨dst, .makeSlice t x y, ty, pos, af, none⟩ :: l) env h = conO P ds K Kp nid (aop P nid env h (.makeSlice t x y)) dst l env := regK_op rfl
theorem regO_slice {dst : Option Tmp} {ty : TypeId} {pos : String} {af : Array Edge} {t : TypeId} {x : Operand} {lo hi mx : Option Operand} : regO P ds K Kp nid (⟨dst, .slice t x lo hi mx, ty, pos, af, none⟩ :: l) env h = conO P ds K Kp nid (aop P nid env h (.slice t x lo hi mx)) dst l env := regK_op rfl
theorem regO_fieldAddr {dst : Option Tmp} {ty : TypeId} {pos : String} {af : Array Edge} {t : TypeId} {x : Operand} {n : Nat} : regO P ds K Kp nid (⟨dst, .fieldAddr t x n, ty, pos, af, none⟩ :: l) env h = conO P ds K Kp nid (aop P nid env h (.fieldAddr t x n)) dst l env := regK_op rfl
theorem regO_field {dst : Option Tmp} {ty : TypeId} {pos : String} {af : Array Edge} {t : TypeId} {x : Operand} {n : Nat} : regO P ds K Kp nid (⟨dst, .field t x n, ty, pos, af, none⟩ :: l) env h = conO P ds K Kp nid (aop P nid env h (.field t x n)) dst l env := regK_op rfl
theorem regO_indexAddr {dst : Option Tmp} {ty : TypeId} {pos : String} {af : Array Edge} {t : TypeId} {x y : Operand} : regO P ds K Kp nid (⟨dst, .indexAddr t x y, ty, pos, af, none⟩ :: l) env h = conO P ds K Kp nid (aop P nid env h (.indexAddr t x y)) dst l env := regK_op rfl
theorem regO_index {dst : Option Tmp} {ty : TypeId} {pos : String} {af : Array Edge} {t : TypeId} {x y : Operand} : regO P ds K Kp nid (⟨dst, .index t x y, ty, pos, af, none⟩ :: l) env h = conO P ds K Kp nid (aop P nid env h (.index t x y)) dst l env := regK_op rfl
theorem regO_extract {dst : Option Tmp} {ty : TypeId} {pos : String} {af : Array Edge} {x : Operand} {n : Nat} : regO P ds K Kp nid (⟨dst, .extract x n, ty, pos, af, none⟩ :: l) env h = conO P ds K Kp nid (aop P nid env h (.extract x n)) dst l env := regK_op rfl
theorem regO_builtin {dst : Option Tmp} {ty : TypeId} {pos : String} {af : Array Edge} {b : Builtin} {xs : Array Operand} {ts : Array TypeId} : regO P ds K Kp nid (⟨dst, .call { callee := .builtin b, args := xs, argTypes := ts }, ty, pos, af, none⟩ :: l) env h = conO P ds K Kp nid (aop P nid env h (.call { callee := .builtin b, args := xs, argTypes := ts })) dst l env := regK_op rfl
theorem regO_grd {dst : Option Tmp} {op : Op} {ty : TypeId} {pos : String} {af : Array Edge} {j : Nat} {want : Bool} : regO P ds K Kp nid (⟨dst, op, ty, pos, af, some (j, want)⟩ :: l) env h = grdO P ds K Kp nid (yld ds env j want) j want dst op l env h := regK_grd
theorem grdO_tt {dst : Option Tmp} {op : Op} {j : Nat} : grdO P ds K Kp nid (some true) j true dst op l env h = regO P ds K Kp nid (⟨dst, op, 0, "", #[], none⟩ :: l) (setY ds env j true) h := grdK_tt
theorem grdO_ff {dst : Option Tmp} {op : Op} {j : Nat} : grdO P ds K Kp nid (some false) j false dst op l env h = regO P ds K Kp nid (⟨dst, op, 0, "", #[], none⟩ :: l) (setY ds env j false) h := grdK_ff
theorem grdO_tf {dst : Option Tmp} {op : Op} {j : Nat} : grdO P ds K Kp nid (some true) j false dst op l env h = regO P ds K Kp (nid + 1) l (putE (setY ds env j true) dst (.p (.sc (.tuple #[])))) h := grdK_tf
theorem grdO_ft {dst : Option Tmp} {op : Op} {j : Nat} : grdO P ds K Kp nid (some false) j true dst op l env h = regO P ds K Kp (nid + 1) l (putE (setY ds env j false) dst (.p (.sc (.tuple #[])))) h := grdK_ft
theorem grdO_b {dst : Option Tmp} {op : Op} {j : Nat} {want b : Bool} (ht : b = true → grdO P ds K Kp nid (some true) j want dst op l env h) (hf : b = false → grdO P ds K Kp nid (some false) j want dst op l env h) :
    grdO P ds K Kp nid (some b) j want dst op l env h := grdK_b ht hf
theorem grdO_dec {dst : Option Tmp} {op : Op} {j : Nat} {want : Bool} {p : Prop} [Decidable p] (ht : p → grdO P ds K Kp nid (some true) j want dst op l env h) (hf : ¬ p → grdO P ds K Kp nid (some false) j want dst op l env h) :
    grdO P ds K Kp nid (some (decide p)) j want dst op l env h := grdK_dec ht hf
theorem grdO_nd {dst : Option Tmp} {op : Op} {j : Nat} {want : Bool} {p : Prop} [Decidable p] (ht : ¬ p → grdO P ds K Kp nid (some true) j want dst op l env h) (hf : p → grdO P ds K Kp nid (some false) j want dst op l env h) :
    grdO P ds K Kp nid (some (!decide p)) j want dst op l env h := grdK_b (fun e => ht (by simpa using e)) (fun e => hf (by simpa using e))
theorem grdO_nb {dst : Option Tmp} {op : Op} {j : Nat} {want b : Bool} (ht : b = false → grdO P ds K Kp nid (some true) j want dst op l env h) (hf : b = true → grdO P ds K Kp nid (some false) j want dst op l env h) :
    grdO P ds K Kp nid (some (!b)) j want dst op l env h := grdK_b (fun e => ht (by simpa using e)) (fun e => hf (by simpa using e))
@[congr] theorem regO_congr {nid' : Nat} {env' : AEnv} {h' : AHeap} (hn : nid = nid') (he : env = env') (hh : h = h') : regO P ds K Kp nid l env h = regO P ds K Kp nid' l env' h' := by subst hn; subst he; subst hh; rfl
@[congr] theorem conO_congr {nid' : Nat} {r r' : Option (Prop × AV × AHeap)} {dst : Option Tmp} {env' : AEnv} (hn : nid = nid') (hr : r = r') (he : env = env') : conO P ds K Kp nid r dst l env = conO P ds K Kp nid' r' dst l env' := by subst hn; subst he; subst hr; rfl
@[congr] theorem grdO_congr {nid' : Nat} {r r' : Option Bool} {j : Nat} {want : Bool} {dst : Option Tmp} {op : Op} {env' : AEnv} {h' : AHeap} (hn : nid = nid') (hr : r = r') (he : env = env') (hh : h = h') : grdO P ds K Kp nid r j want dst op l env h = grdO P ds K Kp nid' r' j want dst op l env' h' := by subst hn; subst he; subst hr; subst hh; rfl
theorem regO_call {dst : Option Tmp} {ty : TypeId} {pos : String} {af : Array Edge} {fo : Operand} {args : Array Operand} {ats : Array TypeId} {f : FuncId} {caps : List AV} (hf : calleeA env fo = some (f, caps))
    (hc : CallK P f (args.toList.map (ev env) ++ caps) nid h (fun x h' => regO P ds K Kp (nid + 1) l (putE env dst x) h') Kp) :
    regO P ds K Kp nid (⟨dst, .call { callee := .value fo, args, argTypes := ats }, ty, pos, af, none⟩ :: l) env h := regK_call hf hc
end

attribute [push_cast] regO_move regO_assign regO_pick regO_alloc regO_box regO_build regO_buildSlice regO_load regO_store regO_binOp regO_unOp regO_convert regO_makeFunc regO_makeSlice regO_slice regO_fieldAddr regO_field regO_indexAddr regO_index regO_extract regO_builtin regO_grd
attribute [push_cast] regO_nil conO_some regO_nilCheck grdO_tt grdO_ff grdO_tf grdO_ft

section
variable {P : Program} {ds : List (Option Tmp)} {K : AEnv → AHeap → Prop} {nid : Nat} {env : AEnv} {h : AHeap} {l : List Oper}

def regP (P : Program) (ds : List (Option Tmp)) (K : AEnv → AHeap → Prop) (nid : Nat) (l : List Oper) (env : AEnv) (h : AHeap) : Prop := regD P ds K nid (strip l) env h
def conP (P : Program) (ds : List (Option Tmp)) (K : AEnv → AHeap → Prop) (nid : Nat) (r : Option (Prop × AV × AHeap)) (dst : Option Tmp) (l : List Oper) (env : AEnv) : Prop := conD P ds K nid r dst (strip l) env
def grdP (P : Program) (ds : List (Option Tmp)) (K : AEnv → AHeap → Prop) (nid : Nat) (r : Option Bool) (j : Nat) (want : Bool) (dst : Option Tmp) (op : Op) (l : List Oper) (env : AEnv) (h : AHeap) : Prop := grdD P ds K nid r j want dst op (strip l) env h

theorem regP_nil : regP P ds K nid [] env h = K env h := rfl
theorem conP_some {s : Prop} {x : AV} {h' : AHeap} {dst : Option Tmp} : conP P ds K nid (some (s, x, h')) dst l env = (s ∧ regP P ds K (nid + 1) l (putE env dst x) h') := rfl
theorem regP_move {dst : Option Tmp} {ty : TypeId} {pos : String} {af : Array Edge} {x : Operand} : regP P ds K nid (⟨dst, .move x, ty, pos, af, none⟩ :: l) env h = conP P ds K nid (aop P nid env h (.move x)) dst l env := regD_op rfl
theorem regP_assign {dst : Option Tmp} {ty : TypeId} {pos : String} {af : Array Edge} {x : Operand} : regP P ds K nid (⟨dst, .assign x, ty, pos, af, none⟩ :: l) env h = conP P ds K nid (aop P nid env h (.assign x)) dst l env := regD_op rfl
theorem regP_pick {dst : Option Tmp} {ty : TypeId} {pos : String} {af : Array Edge} {c x y : Operand} : regP P ds K nid (⟨dst, .pick c x y, ty, pos, af, none⟩ :: l) env h = conP P ds K nid (aop P nid env h (.pick c x y)) dst l env := regD_op rfl
theorem regP_alloc {dst : Option Tmp} {ty : TypeId} {pos : String} {af : Array Edge} {t : TypeId} : regP P ds K nid (⟨dst, .alloc t, ty, pos, af, none⟩ :: l) env h = conP P ds K nid (aop P nid env h (.alloc t)) dst l env := regD_op rfl
theorem regP_box {dst : Option Tmp} {ty : TypeId} {pos : String} {af : Array Edge} {t : TypeId} {x : Operand} : regP P ds K nid (⟨dst, .box t x, ty, pos, af, none⟩ :: l) env h = conP P ds K nid (aop P nid env h (.box t x)) dst l env := regD_op rfl
theorem regP_build {dst : Option Tmp} {ty : TypeId} {pos : String} {af : Array Edge} {t : TypeId} {ps : Array (Nat × Operand)} : regP P ds K nid (⟨dst, .build t ps, ty, pos, af, none⟩ :: l) env h = conP P ds K nid (aop P nid env h (.build t ps)) dst l env := regD_op rfl
theorem regP_buildSlice {dst : Option Tmp} {ty : TypeId} {pos : String} {af : Array Edge} {t : TypeId} {n : Nat} {ps : Array (Nat × Operand)} : regP P ds K nid (⟨dst, .buildSlice t n ps, ty, pos, af, none⟩ :: l) env h = conP P ds K nid (aop P nid env h (.buildSlice t n ps)) dst l env := regD_op rfl
theorem regP_load {dst : Option Tmp} {ty : TypeId} {pos : String} {af : Array Edge} {t : TypeId} {x : Operand} : regP P ds K nid (⟨dst, .load t x, ty, pos, af, none⟩ :: l) env h = conP P ds K nid (aop P nid env h (.load t x)) dst l env := regD_op rfl
theorem regP_store {dst : Option Tmp} {ty : TypeId} {pos : String} {af : Array Edge} {t : TypeId} {x y : Operand} : regP P ds K nid (⟨dst, .store t x y, ty, pos, af, none⟩ :: l) env h = conP P ds K nid (aop P nid env h (.store t x y)) dst l env := regD_op rfl
theorem regP_nilCheck {dst : Option Tmp} {ty : TypeId} {pos : String} {af : Array Edge} {x : Operand} : regP P ds K nid (⟨dst, .nilCheck x, ty, pos, af, none⟩ :: l) env h = conP P ds K nid (aop P nid env h (.nilCheck x)) dst l env := regD_op rfl
theorem regP_binOp {dst : Option Tmp} {ty : TypeId} {pos : String} {af : Array Edge} {b : BinOp} {t : TypeId} {x y : Operand} {t' : TypeId} : regP P ds K nid (⟨dst, .binOp b t x y t', ty, pos, af, none⟩ :: l) env h = conP P ds K nid (aop P nid env h (.binOp b t x y t')) dst l env := regD_op rfl
theorem regP_unOp {dst : Option Tmp} {ty : TypeId} {pos : String} {af : Array Edge} {u : UnOp} {t : TypeId} {x : Operand} : regP P ds K nid (⟨dst, .unOp u t x, ty, pos, af, none⟩ :: l) env h = conP P ds K nid (aop P nid env h (.unOp u t x)) dst l env := regD_op rfl
theorem regP_convert {dst : Option Tmp} {ty : TypeId} {pos : String} {af : Array Edge} {t t' : TypeId} {x : Operand} : regP P ds K nid (⟨dst, .convert t t' x, ty, pos, af, none⟩ :: l) env h = conP P ds K nid (aop P nid env h (.convert t t' x)) dst l env := regD_op rfl
theorem regP_makeFunc {dst : Option Tmp} {ty : TypeId} {pos : String} {af : Array Edge} {fn : Fn} {xs ys : Array Operand} : regP P ds K nid (⟨dst, .makeFunc fn xs ys, ty, pos, af, none⟩ :: l) env h = conP P ds K nid (aop P nid env h (.makeFunc fn xs ys)) dst l env := regD_op rfl
theorem regP_makeSlice {dst : Option Tmp} {ty : TypeId} {pos : String} {af : Array Edge} {t : TypeId} {x y : Operand} : regP P ds K nid (⟨dst, .makeSlice t x y, ty, pos, af, none⟩ :: l) env h = conP P ds K nid (aop P nid env h (.makeSlice t x y)) dst l env := regD_op rfl
theorem regP_slice {dst : Option Tmp} {ty : TypeId} {pos : String} {af : Array Edge} {t : TypeId} {x : Operand} {lo hi mx : Option Operand} : regP P ds K nid (⟨dst, .slice t x lo hi mx, ty, pos, af, none⟩ :: l) env h = conP P ds K nid (aop P nid env h (.slice t x lo hi mx)) dst l env := regD_op rfl
theorem regP_fieldAddr {dst : Option Tmp} {ty : TypeId} {pos : String} {af : Array Edge} {t : TypeId} {x : Operand} {n : Nat} : regP P ds K nid (⟨dst, .fieldAddr t x n, ty, pos, af, none⟩ :: l) env h = conP P ds K nid (aop P nid env h (.fieldAddr t x n)) dst l env := regD_op rfl
theorem regP_field {dst : Option Tmp} {ty : TypeId} {pos : String} {af : Array Edge} {t : TypeId} {x : Operand} {n : Nat} : regP P ds K nid (⟨dst, .field t x n, ty, pos, af, none⟩ :: l) env h = conP P ds K nid (aop P nid env h (.field t x n)) dst l env := regD_op rfl
theorem regP_indexAddr {dst : Option Tmp} {ty : TypeId} {pos : String} {af : Array Edge} {t : TypeId} {x y : Operand} : regP P ds K nid (⟨dst, .indexAddr t x y, ty, pos, af, none⟩ :: l) env h = conP P ds K nid (aop P nid env h (.indexAddr t x y)) dst l env := regD_op rfl
theorem regP_index {dst : Option Tmp} {ty : TypeId} {pos : String} {af : Array Edge} {t : TypeId} {x y : Operand} : regP P ds K nid (⟨dst, .index t x y, ty, pos, af, none⟩ :: l) env h = conP P ds K nid (aop P nid env h (.index t x y)) dst l env := regD_op rfl
theorem regP_extract {dst : Option Tmp} {ty : TypeId} {pos : String} {af : Array Edge} {x : Operand} {n : Nat} : regP P ds K nid (⟨dst, .extract x n, ty, pos, af, none⟩ :: l) env h = conP P ds K nid (aop P nid env h (.extract x n)) dst l env := regD_op rfl
theorem regP_builtin {dst : Option Tmp} {ty : TypeId} {pos : String} {af : Array Edge} {b : Builtin} {xs : Array Operand} {ts : Array TypeId} : regP P ds K nid (⟨dst, .call { callee := .builtin b, args := xs, argTypes := ts }, ty, pos, af, none⟩ :: l) env h = conP P ds K nid (aop P nid env h (.call { callee := .builtin b, args := xs, argTypes := ts })) dst l env := regD_op rfl
theorem regP_grd {dst : Option Tmp} {op : Op} {ty : TypeId} {pos : String} {af : Array Edge} {j : Nat} {want : Bool} : regP P ds K nid (⟨dst, op, ty, pos, af, some (j, want)⟩ :: l) env h = grdP P ds K nid (yld ds env j want) j want dst op l env h := regD_grd
theorem grdP_tt {dst : Option Tmp} {op : Op} {j : Nat} : grdP P ds K nid (some true) j true dst op l env h = regP P ds K nid (⟨dst, op, 0, "", #[], none⟩ :: l) (setY ds env j true) h := grdD_tt
theorem grdP_ff {dst : Option Tmp} {op : Op} {j : Nat} : grdP P ds K nid (some false) j false dst op l env h = regP P ds K nid (⟨dst, op, 0, "", #[], none⟩ :: l) (setY ds env j false) h := grdD_ff
theorem grdP_tf {dst : Option Tmp} {op : Op} {j : Nat} : grdP P ds K nid (some true) j false dst op l env h = regP P ds K (nid + 1) l (putE (setY ds env j true) dst (.p (.sc (.tuple #[])))) h := grdD_tf
theorem grdP_ft {dst : Option Tmp} {op : Op} {j : Nat} : grdP P ds K nid (some false) j true dst op l env h = regP P ds K (nid + 1) l (putE (setY ds env j false) dst (.p (.sc (.tuple #[])))) h := grdD_ft
theorem grdP_b {dst : Option Tmp} {op : Op} {j : Nat} {want b : Bool} (ht : b = true → grdP P ds K nid (some true) j want dst op l env h) (hf : b = false → grdP P ds K nid (some false) j want dst op l env h) :
    grdP P ds K nid (some b) j want dst op l env h := grdD_b ht hf
theorem grdP_dec {dst : Option Tmp} {op : Op} {j : Nat} {want : Bool} {p : Prop} [Decidable p] (ht : p → grdP P ds K nid (some true) j want dst op l env h) (hf : ¬ p → grdP P ds K nid (some false) j want dst op l env h) :
    grdP P ds K nid (some (decide p)) j want dst op l env h := grdD_dec ht hf
theorem grdP_nd {dst : Option Tmp} {op : Op} {j : Nat} {want : Bool} {p : Prop} [Decidable p] (ht : ¬ p → grdP P ds K nid (some true) j want dst op l env h) (hf : p → grdP P ds K nid (some false) j want dst op l env h) :
    grdP P ds K nid (some (!decide p)) j want dst op l env h := grdD_b (fun e => ht (by simpa using e)) (fun e => hf (by simpa using e))
theorem grdP_nb {dst : Option Tmp} {op : Op} {j : Nat} {want b : Bool} (ht : b = false → grdP P ds K nid (some true) j want dst op l env h) (hf : b = true → grdP P ds K nid (some false) j want dst op l env h) :
    grdP P ds K nid (some (!b)) j want dst op l env h := grdD_b (fun e => ht (by simpa using e)) (fun e => hf (by simpa using e))
@[congr] theorem regP_congr {nid' : Nat} {env' : AEnv} {h' : AHeap} (hn : nid = nid') (he : env = env') (hh : h = h') : regP P ds K nid l env h = regP P ds K nid' l env' h' := by subst hn; subst he; subst hh; rfl
@[congr] theorem conP_congr {nid' : Nat} {r r' : Option (Prop × AV × AHeap)} {dst : Option Tmp} {env' : AEnv} (hn : nid = nid') (hr : r = r') (he : env = env') : conP P ds K nid r dst l env = conP P ds K nid' r' dst l env' := by subst hn; subst he; subst hr; rfl
@[congr] theorem grdP_congr {nid' : Nat} {r r' : Option Bool} {j : Nat} {want : Bool} {dst : Option Tmp} {op : Op} {env' : AEnv} {h' : AHeap} (hn : nid = nid') (hr : r = r') (he : env = env') (hh : h = h') : grdP P ds K nid r j want dst op l env h = grdP P ds K nid' r' j want dst op l env' h' := by subst hn; subst he; subst hr; subst hh; rfl
theorem regP_call {dst : Option Tmp} {ty : TypeId} {pos : String} {af : Array Edge} {fo : Operand} {args : Array Operand} {ats : Array TypeId} {f : FuncId} {caps : List AV} {largs : List AV} {x : AV} (hf : calleeA env fo = some (f, caps)) (hcall : AFun P f largs x) (hc : callable P f = true)
    (hargs : normL (args.toList.map (ev env) ++ caps) = largs) (hids : idsLtL 0 largs) (hx : idsLt 0 x) (hk : regP P ds K (nid + 1) l (putE env dst x) h) :
    regP P ds K nid (⟨dst, .call { callee := .value fo, args, argTypes := ats }, ty, pos, af, none⟩ :: l) env h := regD_call hf hcall hc hargs hids hx hk
end

attribute [push_cast] regP_move regP_assign regP_pick regP_alloc regP_box regP_build regP_buildSlice regP_load regP_store regP_binOp regP_unOp regP_convert regP_makeFunc regP_makeSlice regP_slice regP_fieldAddr regP_field regP_indexAddr regP_index regP_extract regP_builtin regP_grd
attribute [push_cast] regP_nil conP_some regP_nilCheck grdP_tt grdP_ff grdP_tf grdP_ft

section
variable {P : Program} {nt m nb : Nat} {env : AEnv} {h : AHeap} {Q : AQ} {cs : List Code}

theorem cs_reg {id : Nat} {l : List Oper} (hreg : regOK nt l = true)
    (hk : ∀ (K : AEnv → AHeap → Prop) (Kp : AV → Prop), (∀ env h, ACs P nt m cs Q env h (nb + l.length) → K env h) → (∀ x, (∀ env h nb, Q (.panic x) env h nb) → Kp x) → regO P (l.map (·.dst)) K Kp nb l env h) : ACs P nt m (.region id l.toArray false :: cs) Q env h nb :=
  cs_region (ops := l.toArray) hreg (hk _ _ (fun _ _ h => h) (fun _ h => h))

theorem cs_drw {id : Nat} {l : List Oper} (hmix : P.follows .mixedOrders = true) (hreg : regOK nt l = true) (hok : drawOK l (ancs l []) = true)
    (hk : ∀ (K : AEnv → AHeap → Prop), (∀ env h, ACs P nt m cs Q env h (nb + l.length) → K env h) → regP P (l.map (·.dst)) K nb l env h) : ACs P nt m (.region id l.toArray true :: cs) Q env h nb :=
  cs_draw (ops := l.toArray) (ancs l []) hmix hreg hok (hk _ (fun _ _ h => h))

/-- The end of a round. -/
def Again {ι : Type} (m n : Nat) (le : ι → List (Nat × AV)) (lh : ι → List (Nat × Ck)) (I : ι → Prop) (μ : ι → Nat) (i : ι) (env : AEnv) (h : AHeap) (nb : Nat) : Prop :=
  ∃ j, (I j ∧ μ j < μ i) ∧ ∃ ρ, WeakR m ρ n ((lh j).map (·.1)) ∧ AllE ρ n env (le j) ∧ AllH ρ n h (lh j)

theorem cs_lp {c : Code} {ι : Type} (le : ι → List (Nat × AV)) (lh : ι → List (Nat × Ck)) (n : Nat) (I : ι → Prop) (μ : ι → Nat)
    (i0 : ι) (hi0 : I i0) (h0 : ∃ ρ, WeakR m ρ n ((lh i0).map (·.1)) ∧ AllE ρ n env (le i0) ∧ AllH ρ n h (lh i0))
    (round : ∀ i, I i → ACs P nt m [c] (thenA (Again m n le lh I μ i) (thenA (ACs P nt m cs Q) Q)) (mkE (le i)) (mkH (lh i)) n) :
    ACs P nt m (.loop c :: cs) Q env h nb := cs_loop le lh n I μ i0 hi0 h0 round

theorem Again.intro {ι : Type} {n : Nat} {le : ι → List (Nat × AV)} {lh : ι → List (Nat × Ck)} {I : ι → Prop} {μ : ι → Nat} {i : ι} (j : ι) (hj : I j) (hμ : μ j < μ i) (ρ : Nat → Nat) (hr : WeakR m ρ n ((lh j).map (·.1))) (he : AllE ρ n env (le j)) (hh : AllH ρ n h (lh j)) : Again m n le lh I μ i env h nb :=
  ⟨j, ⟨hj, hμ⟩, ρ, hr, he, hh⟩

@[congr] theorem ACs_congr {nb' : Nat} {env' : AEnv} {h' : AHeap} (hn : nb = nb') (he : env = env') (hh : h = h') : ACs P nt m cs Q env h nb = ACs P nt m cs Q env' h' nb' := by subst hn; subst he; subst hh; rfl
@[congr] theorem condK_congr {v v' : AV} {x y : Code} {nb' : Nat} {env' : AEnv} {h' : AHeap} (hv : v = v') (hn : nb = nb') (he : env = env') (hh : h = h') : condK P nt m v x y cs Q env h nb = condK P nt m v' x y cs Q env' h' nb' := by subst hv; subst hn; subst he; subst hh; rfl
@[congr] theorem RetQ_congr {res : List ResultVar} {R : AV → AHeap → Prop} {Rp : AV → Prop} {x : AX} {env' : AEnv} {h' : AHeap} (he : env = env') (hh : h = h') : RetQ P m res R Rp x env h nb = RetQ P m res R Rp x env' h' nb := by subst he; subst hh; rfl
@[congr] theorem Again_congr {ι : Type} {n : Nat} {le : ι → List (Nat × AV)} {lh : ι → List (Nat × Ck)} {I : ι → Prop} {μ : ι → Nat} {i : ι} {env' : AEnv} {h' : AHeap} (he : env = env') (hh : h = h') : Again m n le lh I μ i env h nb = Again m n le lh I μ i env' h' nb := by subst he; subst hh; rfl
@[congr] theorem thenA_congr {K : AEnv → AHeap → Nat → Prop} {x : AX} {nb' : Nat} {env' : AEnv} {h' : AHeap} (hn : nb = nb') (he : env = env') (hh : h = h') : thenA K Q x env h nb = thenA K Q x env' h' nb' := by subst hn; subst he; subst hh; rfl
@[congr] theorem blockA_congr {id : Nat} {x : AX} {nb' : Nat} {env' : AEnv} {h' : AHeap} (hn : nb = nb') (he : env = env') (hh : h = h') : blockA id Q x env h nb = blockA id Q x env' h' nb' := by subst hn; subst he; subst hh; rfl
end

/-- The same where the code ends without a return. -/
theorem end_mem {P : Program} {env : AEnv} {h : AHeap} {nb m : Nat} {res : List ResultVar} {y : AV} {cks' : List (Option Ck)} {Rp : AV → Prop} (r : Nat) (hr : m ≤ r) {l : List AV} (hl : resA P env h res = some l) (hy : AVLe (newAt m r) (m + 1) (oneA l) y) (hi : idsLt (m + 1) y)
    (hh : allL (newAt m r) (m + 1) h 0 cks') (hk : ltAll (m + 1) ((numL 0 cks').map (·.1)) = true := by rfl) : RetQ P m res (fun x h => x = y ∧ h = lO cks') Rp .normal env h nb := by
  have := ret_mem (Rp := Rp) (nb := nb) r hr hl hy hi hh hk
  exact this

/-- The parts of a built value, one by one. -/
def evP (env : AEnv) : List (Nat × Operand) → List (Nat × AV)
  | [] => []
  | (i, x) :: l => (i, ev env x) :: evP env l
theorem evP_eq (env : AEnv) : ∀ l : List (Nat × Operand), l.map (fun q => (q.1, ev env q.2)) = evP env l
  | [] => rfl
  | (i, x) :: l => by simp [evP, evP_eq env l]
theorem aop_build {P : Program} {nid : Nat} {env : AEnv} {h : AHeap} {t : TypeId} {l : List (Nat × Operand)} : aop P nid env h (.build t l.toArray) = match tyf P t, placesT P t with
    | some y, some pl => match afill pl (y.zero.cells.toList.map cst1) (evP env l) with
      | some cells => some (True, .agg cells, h)
      | none => none
    | _, _ => none := by
  simp only [aop, ← evP_eq]
  rfl
attribute [push_cast] evP

end Go.Ab
