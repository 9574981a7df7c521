/- Closed facts on the types and functions of this program, by its own text. No condition. -/
import Derived.Test.YtohmjbgcmccplaaProg
import Derived.Test.YtohmjbgcmccplaaAa2
namespace Go.Proofs.Ytohmjbgcmccplaa
open Go Go.Ab
set_option linter.unusedVariables false

@[push_cast] theorem tyf_0 : tyf Try.prog 0 = some (TyF.mk false 1 0 (Value.tuple (#[]))) := by kernel_rfl
@[push_cast] theorem tyf_1 : tyf Try.prog 1 = some (TyF.mk false 1 8 Value.nilFunc) := by kernel_rfl
@[push_cast] theorem tyf_2 : tyf Try.prog 2 = some (TyF.mk false 1 8 (Value.int IntKind.i64 (0))) := by kernel_rfl
@[push_cast] theorem intT_2 : intT Try.prog 2 = some IntKind.i64 := by kernel_rfl
@[push_cast] theorem tyf_3 : tyf Try.prog 3 = some (TyF.mk false 1 8 (Value.int IntKind.i64 (0))) := by kernel_rfl
@[push_cast] theorem intT_3 : intT Try.prog 3 = some IntKind.i64 := by kernel_rfl
@[push_cast] theorem tyf_4 : tyf Try.prog 4 = some (TyF.mk false 1 1 (Value.bool false)) := by kernel_rfl
@[push_cast] theorem boolT_4 : boolT Try.prog 4 = true := by kernel_rfl
@[push_cast] theorem tyf_5 : tyf Try.prog 5 = some (TyF.mk false 1 1 (Value.int IntKind.u8 (0))) := by kernel_rfl
@[push_cast] theorem intT_5 : intT Try.prog 5 = some IntKind.u8 := by kernel_rfl
@[push_cast] theorem tyf_6 : tyf Try.prog 6 = some (TyF.mk false 1 1 (Value.int IntKind.u8 (0))) := by kernel_rfl
@[push_cast] theorem intT_6 : intT Try.prog 6 = some IntKind.u8 := by kernel_rfl
@[push_cast] theorem tyf_7 : tyf Try.prog 7 = some (TyF.mk true 4 24 (Value.agg #[Value.int IntKind.i64 (0), Value.int IntKind.i64 (0), Value.bool false, Value.int IntKind.u8 (0)])) := by kernel_rfl
@[push_cast] theorem placesT_7 : placesT Try.prog 7 = some [(0, 1), (1, 1), (2, 1), (3, 1)] := by kernel_rfl
@[push_cast] theorem fOff_7_0 : fOff Try.prog 7 0 = some (0, 1, false) := by kernel_rfl
@[push_cast] theorem fOff_7_1 : fOff Try.prog 7 1 = some (1, 1, false) := by kernel_rfl
@[push_cast] theorem fOff_7_2 : fOff Try.prog 7 2 = some (2, 1, false) := by kernel_rfl
@[push_cast] theorem fOff_7_3 : fOff Try.prog 7 3 = some (3, 1, false) := by kernel_rfl
@[push_cast] theorem tyf_8 : tyf Try.prog 8 = some (TyF.mk true 4 24 (Value.agg #[Value.int IntKind.i64 (0), Value.int IntKind.i64 (0), Value.bool false, Value.int IntKind.u8 (0)])) := by kernel_rfl
@[push_cast] theorem placesT_8 : placesT Try.prog 8 = some [(0, 1), (1, 1), (2, 1), (3, 1)] := by kernel_rfl
@[push_cast] theorem fOff_8_0 : fOff Try.prog 8 0 = some (0, 1, false) := by kernel_rfl
@[push_cast] theorem fOff_8_1 : fOff Try.prog 8 1 = some (1, 1, false) := by kernel_rfl
@[push_cast] theorem fOff_8_2 : fOff Try.prog 8 2 = some (2, 1, false) := by kernel_rfl
@[push_cast] theorem fOff_8_3 : fOff Try.prog 8 3 = some (3, 1, false) := by kernel_rfl
@[push_cast] theorem tyf_9 : tyf Try.prog 9 = some (TyF.mk false 1 16 (Value.string (ByteArray.mk (#[])))) := by kernel_rfl
@[push_cast] theorem strT_9 : strT Try.prog 9 = true := by kernel_rfl
@[push_cast] theorem tyf_10 : tyf Try.prog 10 = some (TyF.mk false 1 16 (Value.string (ByteArray.mk (#[])))) := by kernel_rfl
@[push_cast] theorem strT_10 : strT Try.prog 10 = true := by kernel_rfl
@[push_cast] theorem tyf_11 : tyf Try.prog 11 = some (TyF.mk false 1 16 (Value.string (ByteArray.mk (#[])))) := by kernel_rfl
@[push_cast] theorem strT_11 : strT Try.prog 11 = true := by kernel_rfl
@[push_cast] theorem tyf_12 : tyf Try.prog 12 = some (TyF.mk false 1 8 (Value.int IntKind.u64 (0))) := by kernel_rfl
@[push_cast] theorem intT_12 : intT Try.prog 12 = some IntKind.u64 := by kernel_rfl
@[push_cast] theorem tyf_13 : tyf Try.prog 13 = some (TyF.mk true 2 24 (Value.agg (Array.mk [Value.string (ByteArray.mk (#[])), Value.int IntKind.u64 (0)]))) := by kernel_rfl
@[push_cast] theorem placesT_13 : placesT Try.prog 13 = some [(0, 1), (1, 1)] := by kernel_rfl
@[push_cast] theorem fOff_13_0 : fOff Try.prog 13 0 = some (0, 1, false) := by kernel_rfl
@[push_cast] theorem fOff_13_1 : fOff Try.prog 13 1 = some (1, 1, false) := by kernel_rfl
@[push_cast] theorem tyf_14 : tyf Try.prog 14 = some (TyF.mk true 2 24 (Value.agg (Array.mk [Value.string (ByteArray.mk (#[])), Value.int IntKind.u64 (0)]))) := by kernel_rfl
@[push_cast] theorem placesT_14 : placesT Try.prog 14 = some [(0, 1), (1, 1)] := by kernel_rfl
@[push_cast] theorem fOff_14_0 : fOff Try.prog 14 0 = some (0, 1, false) := by kernel_rfl
@[push_cast] theorem fOff_14_1 : fOff Try.prog 14 1 = some (1, 1, false) := by kernel_rfl
@[push_cast] theorem tyf_15 : tyf Try.prog 15 = some (TyF.mk false 1 8 (Value.pointer none)) := by kernel_rfl
@[push_cast] theorem tyf_16 : tyf Try.prog 16 = some (TyF.mk false 1 8 (Value.pointer none)) := by kernel_rfl
@[push_cast] theorem tyf_17 : tyf Try.prog 17 = some (TyF.mk false 1 8 (Value.pointer none)) := by kernel_rfl
@[push_cast] theorem tyf_18 : tyf Try.prog 18 = some (TyF.mk true 1 8 (Value.agg #[Value.pointer none])) := by kernel_rfl
@[push_cast] theorem placesT_18 : placesT Try.prog 18 = some [(0, 1)] := by kernel_rfl
@[push_cast] theorem fOff_18_0 : fOff Try.prog 18 0 = some (0, 1, false) := by kernel_rfl
@[push_cast] theorem tyf_19 : tyf Try.prog 19 = some (TyF.mk true 1 8 (Value.agg #[Value.pointer none])) := by kernel_rfl
@[push_cast] theorem placesT_19 : placesT Try.prog 19 = some [(0, 1)] := by kernel_rfl
@[push_cast] theorem fOff_19_0 : fOff Try.prog 19 0 = some (0, 1, false) := by kernel_rfl
@[push_cast] theorem tyf_20 : tyf Try.prog 20 = some (TyF.mk false 1 16 Value.nilIface) := by kernel_rfl
@[push_cast] theorem tyf_21 : tyf Try.prog 21 = some (TyF.mk false 1 4 (Value.int IntKind.i32 (0))) := by kernel_rfl
@[push_cast] theorem intT_21 : intT Try.prog 21 = some IntKind.i32 := by kernel_rfl
@[push_cast] theorem tyf_22 : tyf Try.prog 22 = some (TyF.mk false 1 24 (Value.slice none 0 0)) := by kernel_rfl
@[push_cast] theorem slE_22 : slE Try.prog 22 = some 5 := by kernel_rfl
@[push_cast] theorem tyf_23 : tyf Try.prog 23 = some (TyF.mk false 1 8 Value.nilFunc) := by kernel_rfl
@[push_cast] theorem tyf_24 : tyf Try.prog 24 = some (TyF.mk false 1 24 (Value.slice none 0 0)) := by kernel_rfl
@[push_cast] theorem slE_24 : slE Try.prog 24 = some 49 := by kernel_rfl
@[push_cast] theorem tyf_25 : tyf Try.prog 25 = some (TyF.mk false 1 24 (Value.slice none 0 0)) := by kernel_rfl
@[push_cast] theorem slE_25 : slE Try.prog 25 = some 37 := by kernel_rfl
@[push_cast] theorem tyf_26 : tyf Try.prog 26 = some (TyF.mk true 3 72 (Value.agg #[Value.slice none 0 0, Value.slice none 0 0, Value.slice none 0 0])) := by kernel_rfl
@[push_cast] theorem placesT_26 : placesT Try.prog 26 = some [(0, 1), (1, 1), (2, 1)] := by kernel_rfl
@[push_cast] theorem fOff_26_0 : fOff Try.prog 26 0 = some (0, 1, false) := by kernel_rfl
@[push_cast] theorem fOff_26_1 : fOff Try.prog 26 1 = some (1, 1, false) := by kernel_rfl
@[push_cast] theorem fOff_26_2 : fOff Try.prog 26 2 = some (2, 1, false) := by kernel_rfl
@[push_cast] theorem tyf_27 : tyf Try.prog 27 = some (TyF.mk true 3 72 (Value.agg #[Value.slice none 0 0, Value.slice none 0 0, Value.slice none 0 0])) := by kernel_rfl
@[push_cast] theorem placesT_27 : placesT Try.prog 27 = some [(0, 1), (1, 1), (2, 1)] := by kernel_rfl
@[push_cast] theorem fOff_27_0 : fOff Try.prog 27 0 = some (0, 1, false) := by kernel_rfl
@[push_cast] theorem fOff_27_1 : fOff Try.prog 27 1 = some (1, 1, false) := by kernel_rfl
@[push_cast] theorem fOff_27_2 : fOff Try.prog 27 2 = some (2, 1, false) := by kernel_rfl
@[push_cast] theorem tyf_28 : tyf Try.prog 28 = some (TyF.mk false 1 0 (Value.tuple (Array.mk [Value.agg #[Value.slice none 0 0, Value.slice none 0 0, Value.slice none 0 0], Value.bool false]))) := by kernel_rfl
@[push_cast] theorem tyf_29 : tyf Try.prog 29 = some (TyF.mk false 1 8 Value.nilFunc) := by kernel_rfl
@[push_cast] theorem tyf_30 : tyf Try.prog 30 = some (TyF.mk false 1 8 Value.nilFunc) := by kernel_rfl
@[push_cast] theorem tyf_31 : tyf Try.prog 31 = some (TyF.mk false 1 8 Value.nilFunc) := by kernel_rfl
@[push_cast] theorem tyf_32 : tyf Try.prog 32 = some (TyF.mk false 1 24 (Value.slice none 0 0)) := by kernel_rfl
@[push_cast] theorem slE_32 : slE Try.prog 32 = some 35 := by kernel_rfl
@[push_cast] theorem tyf_33 : tyf Try.prog 33 = some (TyF.mk false 1 8 Value.nilFunc) := by kernel_rfl
@[push_cast] theorem tyf_34 : tyf Try.prog 34 = some (TyF.mk true 3 16 (Value.agg #[Value.int IntKind.i32 (0), Value.int IntKind.i32 (0), Value.int IntKind.i64 (0)])) := by kernel_rfl
@[push_cast] theorem placesT_34 : placesT Try.prog 34 = some [(0, 1), (1, 1), (2, 1)] := by kernel_rfl
@[push_cast] theorem fOff_34_0 : fOff Try.prog 34 0 = some (0, 1, false) := by kernel_rfl
@[push_cast] theorem fOff_34_1 : fOff Try.prog 34 1 = some (1, 1, false) := by kernel_rfl
@[push_cast] theorem fOff_34_2 : fOff Try.prog 34 2 = some (2, 1, false) := by kernel_rfl
@[push_cast] theorem tyf_35 : tyf Try.prog 35 = some (TyF.mk true 3 16 (Value.agg #[Value.int IntKind.i32 (0), Value.int IntKind.i32 (0), Value.int IntKind.i64 (0)])) := by kernel_rfl
@[push_cast] theorem placesT_35 : placesT Try.prog 35 = some [(0, 1), (1, 1), (2, 1)] := by kernel_rfl
@[push_cast] theorem fOff_35_0 : fOff Try.prog 35 0 = some (0, 1, false) := by kernel_rfl
@[push_cast] theorem fOff_35_1 : fOff Try.prog 35 1 = some (1, 1, false) := by kernel_rfl
@[push_cast] theorem fOff_35_2 : fOff Try.prog 35 2 = some (2, 1, false) := by kernel_rfl
@[push_cast] theorem tyf_36 : tyf Try.prog 36 = some (TyF.mk false 1 8 Value.nilFunc) := by kernel_rfl
@[push_cast] theorem tyf_37 : tyf Try.prog 37 = some (TyF.mk false 1 24 (Value.slice none 0 0)) := by kernel_rfl
@[push_cast] theorem slE_37 : slE Try.prog 37 = some 51 := by kernel_rfl
@[push_cast] theorem tyf_38 : tyf Try.prog 38 = some (TyF.mk false 1 8 Value.nilFunc) := by kernel_rfl
@[push_cast] theorem tyf_39 : tyf Try.prog 39 = some (TyF.mk false 1 8 Value.nilFunc) := by kernel_rfl
@[push_cast] theorem tyf_40 : tyf Try.prog 40 = some (TyF.mk false 1 8 Value.nilFunc) := by kernel_rfl
@[push_cast] theorem tyf_41 : tyf Try.prog 41 = some (TyF.mk false 1 8 Value.nilFunc) := by kernel_rfl
@[push_cast] theorem tyf_42 : tyf Try.prog 42 = some (TyF.mk false 1 8 Value.nilFunc) := by kernel_rfl
@[push_cast] theorem tyf_43 : tyf Try.prog 43 = some (TyF.mk false 1 0 (Value.tuple #[Value.slice none 0 0, Value.bool false])) := by kernel_rfl
@[push_cast] theorem tyf_44 : tyf Try.prog 44 = some (TyF.mk false 1 8 Value.nilFunc) := by kernel_rfl
@[push_cast] theorem tyf_45 : tyf Try.prog 45 = some (TyF.mk false 1 8 Value.nilFunc) := by kernel_rfl
@[push_cast] theorem tyf_46 : tyf Try.prog 46 = some (TyF.mk false 1 8 Value.nilFunc) := by kernel_rfl
@[push_cast] theorem tyf_47 : tyf Try.prog 47 = some (TyF.mk false 1 8 Value.nilFunc) := by kernel_rfl
@[push_cast] theorem tyf_48 : tyf Try.prog 48 = some (TyF.mk true 3 24 (Value.agg #[Value.int IntKind.i64 (0), Value.int IntKind.i64 (0), Value.int IntKind.i64 (0)])) := by kernel_rfl
@[push_cast] theorem placesT_48 : placesT Try.prog 48 = some [(0, 1), (1, 1), (2, 1)] := by kernel_rfl
@[push_cast] theorem fOff_48_0 : fOff Try.prog 48 0 = some (0, 1, false) := by kernel_rfl
@[push_cast] theorem fOff_48_1 : fOff Try.prog 48 1 = some (1, 1, false) := by kernel_rfl
@[push_cast] theorem fOff_48_2 : fOff Try.prog 48 2 = some (2, 1, false) := by kernel_rfl
@[push_cast] theorem tyf_49 : tyf Try.prog 49 = some (TyF.mk true 3 24 (Value.agg #[Value.int IntKind.i64 (0), Value.int IntKind.i64 (0), Value.int IntKind.i64 (0)])) := by kernel_rfl
@[push_cast] theorem placesT_49 : placesT Try.prog 49 = some [(0, 1), (1, 1), (2, 1)] := by kernel_rfl
@[push_cast] theorem fOff_49_0 : fOff Try.prog 49 0 = some (0, 1, false) := by kernel_rfl
@[push_cast] theorem fOff_49_1 : fOff Try.prog 49 1 = some (1, 1, false) := by kernel_rfl
@[push_cast] theorem fOff_49_2 : fOff Try.prog 49 2 = some (2, 1, false) := by kernel_rfl
@[push_cast] theorem tyf_50 : tyf Try.prog 50 = some (TyF.mk true 2 16 (Value.agg #[Value.int IntKind.i64 (0), Value.int IntKind.i64 (0)])) := by kernel_rfl
@[push_cast] theorem placesT_50 : placesT Try.prog 50 = some [(0, 1), (1, 1)] := by kernel_rfl
@[push_cast] theorem fOff_50_0 : fOff Try.prog 50 0 = some (0, 1, false) := by kernel_rfl
@[push_cast] theorem fOff_50_1 : fOff Try.prog 50 1 = some (1, 1, false) := by kernel_rfl
@[push_cast] theorem tyf_51 : tyf Try.prog 51 = some (TyF.mk true 2 16 (Value.agg #[Value.int IntKind.i64 (0), Value.int IntKind.i64 (0)])) := by kernel_rfl
@[push_cast] theorem placesT_51 : placesT Try.prog 51 = some [(0, 1), (1, 1)] := by kernel_rfl
@[push_cast] theorem fOff_51_0 : fOff Try.prog 51 0 = some (0, 1, false) := by kernel_rfl
@[push_cast] theorem fOff_51_1 : fOff Try.prog 51 1 = some (1, 1, false) := by kernel_rfl
@[push_cast] theorem tyf_52 : tyf Try.prog 52 = some (TyF.mk false 1 0 (Value.tuple #[Value.int IntKind.i64 (0), Value.bool false])) := by kernel_rfl
@[push_cast] theorem tyf_53 : tyf Try.prog 53 = some (TyF.mk false 1 8 Value.nilFunc) := by kernel_rfl
@[push_cast] theorem tyf_54 : tyf Try.prog 54 = some (TyF.mk false 1 0 (Value.tuple #[Value.slice none 0 0, Value.bool false])) := by kernel_rfl
@[push_cast] theorem tyf_55 : tyf Try.prog 55 = some (TyF.mk false 1 8 Value.nilFunc) := by kernel_rfl
@[push_cast] theorem tyf_56 : tyf Try.prog 56 = some (TyF.mk false 1 0 (Value.tuple #[Value.slice none 0 0, Value.bool false])) := by kernel_rfl
@[push_cast] theorem tyf_57 : tyf Try.prog 57 = some (TyF.mk false 1 8 Value.nilFunc) := by kernel_rfl
@[push_cast] theorem tyf_58 : tyf Try.prog 58 = some (TyF.mk false 1 8 Value.nilFunc) := by kernel_rfl
@[push_cast] theorem tyf_59 : tyf Try.prog 59 = some (TyF.mk false 1 8 Value.nilFunc) := by kernel_rfl
@[push_cast] theorem tyf_60 : tyf Try.prog 60 = some (TyF.mk false 1 0 (Value.tuple #[Value.slice none 0 0, Value.bool false])) := by kernel_rfl
@[push_cast] theorem tyf_61 : tyf Try.prog 61 = some (TyF.mk false 1 8 Value.nilFunc) := by kernel_rfl
@[push_cast] theorem tyf_62 : tyf Try.prog 62 = some (TyF.mk false 1 8 Value.nilFunc) := by kernel_rfl
@[push_cast] theorem tyf_63 : tyf Try.prog 63 = some (TyF.mk false 1 8 Value.nilFunc) := by kernel_rfl
@[push_cast] theorem tyf_64 : tyf Try.prog 64 = some (TyF.mk false 1 8 Value.nilFunc) := by kernel_rfl
@[push_cast] theorem tyf_65 : tyf Try.prog 65 = some (TyF.mk true 2 16 (Value.agg #[Value.int IntKind.i64 (0), Value.int IntKind.i64 (0)])) := by kernel_rfl
@[push_cast] theorem slE_65 : slE Try.prog 65 = none := by kernel_rfl
@[push_cast] theorem arE_65 : arE Try.prog 65 = some (2, 3) := by kernel_rfl
@[push_cast] theorem placesT_65 : placesT Try.prog 65 = some [(0, 1), (1, 1)] := by kernel_rfl
@[push_cast] theorem tyf_66 : tyf Try.prog 66 = some (TyF.mk false 1 8 (Value.pointer none)) := by kernel_rfl
@[push_cast] theorem tyf_67 : tyf Try.prog 67 = some (TyF.mk true 2 32 (Value.agg #[Value.slice none 0 0, Value.int IntKind.i64 (0)])) := by kernel_rfl
@[push_cast] theorem placesT_67 : placesT Try.prog 67 = some [(0, 1), (1, 1)] := by kernel_rfl
@[push_cast] theorem fOff_67_0 : fOff Try.prog 67 0 = some (0, 1, false) := by kernel_rfl
@[push_cast] theorem fOff_67_1 : fOff Try.prog 67 1 = some (1, 1, false) := by kernel_rfl
@[push_cast] theorem tyf_68 : tyf Try.prog 68 = some (TyF.mk true 2 32 (Value.agg #[Value.slice none 0 0, Value.int IntKind.i64 (0)])) := by kernel_rfl
@[push_cast] theorem placesT_68 : placesT Try.prog 68 = some [(0, 1), (1, 1)] := by kernel_rfl
@[push_cast] theorem fOff_68_0 : fOff Try.prog 68 0 = some (0, 1, false) := by kernel_rfl
@[push_cast] theorem fOff_68_1 : fOff Try.prog 68 1 = some (1, 1, false) := by kernel_rfl
@[push_cast] theorem tyf_69 : tyf Try.prog 69 = some (TyF.mk false 1 8 Value.nilFunc) := by kernel_rfl
@[push_cast] theorem tyf_70 : tyf Try.prog 70 = some (TyF.mk false 1 24 (Value.slice none 0 0)) := by kernel_rfl
@[push_cast] theorem slE_70 : slE Try.prog 70 = some 3 := by kernel_rfl
@[push_cast] theorem tyf_71 : tyf Try.prog 71 = some (TyF.mk false 1 0 (Value.tuple #[Value.slice none 0 0, Value.bool false])) := by kernel_rfl
@[push_cast] theorem tyf_72 : tyf Try.prog 72 = some (TyF.mk false 1 8 Value.nilFunc) := by kernel_rfl
@[push_cast] theorem tyf_73 : tyf Try.prog 73 = some (TyF.mk false 1 8 Value.nilFunc) := by kernel_rfl
@[push_cast] theorem tyf_74 : tyf Try.prog 74 = some (TyF.mk false 1 24 (Value.slice none 0 0)) := by kernel_rfl
@[push_cast] theorem slE_74 : slE Try.prog 74 = some 4 := by kernel_rfl
@[push_cast] theorem tyf_75 : tyf Try.prog 75 = some (TyF.mk false 1 8 Value.nilFunc) := by kernel_rfl
@[push_cast] theorem tyf_76 : tyf Try.prog 76 = some (TyF.mk false 1 8 Value.nilFunc) := by kernel_rfl
@[push_cast] theorem tyf_77 : tyf Try.prog 77 = some (TyF.mk true 5 40 (Value.agg #[Value.int IntKind.i64 (0), Value.int IntKind.i64 (0), Value.int IntKind.i64 (0), Value.int IntKind.i64 (0), Value.int IntKind.i64 (0)])) := by kernel_rfl
@[push_cast] theorem placesT_77 : placesT Try.prog 77 = some [(0, 1), (1, 1), (2, 1), (3, 1), (4, 1)] := by kernel_rfl
@[push_cast] theorem fOff_77_0 : fOff Try.prog 77 0 = some (0, 1, false) := by kernel_rfl
@[push_cast] theorem fOff_77_1 : fOff Try.prog 77 1 = some (1, 1, false) := by kernel_rfl
@[push_cast] theorem fOff_77_2 : fOff Try.prog 77 2 = some (2, 1, false) := by kernel_rfl
@[push_cast] theorem fOff_77_3 : fOff Try.prog 77 3 = some (3, 1, false) := by kernel_rfl
@[push_cast] theorem fOff_77_4 : fOff Try.prog 77 4 = some (4, 1, false) := by kernel_rfl
@[push_cast] theorem tyf_78 : tyf Try.prog 78 = some (TyF.mk true 5 40 (Value.agg #[Value.int IntKind.i64 (0), Value.int IntKind.i64 (0), Value.int IntKind.i64 (0), Value.int IntKind.i64 (0), Value.int IntKind.i64 (0)])) := by kernel_rfl
@[push_cast] theorem placesT_78 : placesT Try.prog 78 = some [(0, 1), (1, 1), (2, 1), (3, 1), (4, 1)] := by kernel_rfl
@[push_cast] theorem fOff_78_0 : fOff Try.prog 78 0 = some (0, 1, false) := by kernel_rfl
@[push_cast] theorem fOff_78_1 : fOff Try.prog 78 1 = some (1, 1, false) := by kernel_rfl
@[push_cast] theorem fOff_78_2 : fOff Try.prog 78 2 = some (2, 1, false) := by kernel_rfl
@[push_cast] theorem fOff_78_3 : fOff Try.prog 78 3 = some (3, 1, false) := by kernel_rfl
@[push_cast] theorem fOff_78_4 : fOff Try.prog 78 4 = some (4, 1, false) := by kernel_rfl
@[push_cast] theorem tyf_79 : tyf Try.prog 79 = some (TyF.mk false 1 8 Value.nilFunc) := by kernel_rfl
@[push_cast] theorem tyf_80 : tyf Try.prog 80 = some (TyF.mk false 1 8 Value.nilFunc) := by kernel_rfl
@[push_cast] theorem tyf_81 : tyf Try.prog 81 = some (TyF.mk false 1 8 Value.nilFunc) := by kernel_rfl
@[push_cast] theorem tyf_82 : tyf Try.prog 82 = some (TyF.mk false 1 24 (Value.slice none 0 0)) := by kernel_rfl
@[push_cast] theorem slE_82 : slE Try.prog 82 = some 85 := by kernel_rfl
@[push_cast] theorem tyf_83 : tyf Try.prog 83 = some (TyF.mk false 1 0 (Value.tuple #[Value.slice none 0 0, Value.bool false])) := by kernel_rfl
@[push_cast] theorem tyf_84 : tyf Try.prog 84 = some (TyF.mk false 1 8 Value.nilFunc) := by kernel_rfl
@[push_cast] theorem tyf_85 : tyf Try.prog 85 = some (TyF.mk true 3 24 (Value.agg #[Value.int IntKind.i64 (0), Value.int IntKind.i64 (0), Value.int IntKind.i64 (0)])) := by kernel_rfl
@[push_cast] theorem slE_85 : slE Try.prog 85 = none := by kernel_rfl
@[push_cast] theorem arE_85 : arE Try.prog 85 = some (3, 3) := by kernel_rfl
@[push_cast] theorem placesT_85 : placesT Try.prog 85 = some [(0, 1), (1, 1), (2, 1)] := by kernel_rfl
@[push_cast] theorem tyf_86 : tyf Try.prog 86 = some (TyF.mk false 1 8 Value.nilFunc) := by kernel_rfl
@[push_cast] theorem tyf_87 : tyf Try.prog 87 = some (TyF.mk false 1 8 Value.nilFunc) := by kernel_rfl
@[push_cast] theorem tyf_88 : tyf Try.prog 88 = some (TyF.mk false 1 8 Value.nilFunc) := by kernel_rfl
@[push_cast] theorem tyf_89 : tyf Try.prog 89 = some (TyF.mk false 1 8 (Value.pointer none)) := by kernel_rfl
@[push_cast] theorem tyf_90 : tyf Try.prog 90 = some (TyF.mk false 1 8 (Value.int IntKind.u64 (0))) := by kernel_rfl
@[push_cast] theorem intT_90 : intT Try.prog 90 = some IntKind.u64 := by kernel_rfl
@[push_cast] theorem tyf_91 : tyf Try.prog 91 = some (TyF.mk false 1 8 Value.nilFunc) := by kernel_rfl
@[push_cast] theorem tyf_92 : tyf Try.prog 92 = some (TyF.mk false 1 8 Value.nilFunc) := by kernel_rfl
@[push_cast] theorem tyf_93 : tyf Try.prog 93 = some (TyF.mk true 4 40 (Value.agg (Array.mk [Value.pointer none, Value.pointer none, Value.pointer none, Value.string (ByteArray.mk (#[]))]))) := by kernel_rfl
@[push_cast] theorem placesT_93 : placesT Try.prog 93 = some [(0, 1), (1, 1), (2, 1), (3, 1)] := by kernel_rfl
@[push_cast] theorem fOff_93_0 : fOff Try.prog 93 0 = some (0, 1, false) := by kernel_rfl
@[push_cast] theorem fOff_93_1 : fOff Try.prog 93 1 = some (1, 1, false) := by kernel_rfl
@[push_cast] theorem fOff_93_2 : fOff Try.prog 93 2 = some (2, 1, false) := by kernel_rfl
@[push_cast] theorem fOff_93_3 : fOff Try.prog 93 3 = some (3, 1, false) := by kernel_rfl
@[push_cast] theorem tyf_94 : tyf Try.prog 94 = some (TyF.mk true 4 40 (Value.agg (Array.mk [Value.pointer none, Value.pointer none, Value.pointer none, Value.string (ByteArray.mk (#[]))]))) := by kernel_rfl
@[push_cast] theorem placesT_94 : placesT Try.prog 94 = some [(0, 1), (1, 1), (2, 1), (3, 1)] := by kernel_rfl
@[push_cast] theorem fOff_94_0 : fOff Try.prog 94 0 = some (0, 1, false) := by kernel_rfl
@[push_cast] theorem fOff_94_1 : fOff Try.prog 94 1 = some (1, 1, false) := by kernel_rfl
@[push_cast] theorem fOff_94_2 : fOff Try.prog 94 2 = some (2, 1, false) := by kernel_rfl
@[push_cast] theorem fOff_94_3 : fOff Try.prog 94 3 = some (3, 1, false) := by kernel_rfl
@[push_cast] theorem tyf_95 : tyf Try.prog 95 = some (TyF.mk true 0 0 (Value.agg (#[]))) := by kernel_rfl
@[push_cast] theorem slE_95 : slE Try.prog 95 = none := by kernel_rfl
@[push_cast] theorem arE_95 : arE Try.prog 95 = some (0, 16) := by kernel_rfl
@[push_cast] theorem placesT_95 : placesT Try.prog 95 = some [] := by kernel_rfl
@[push_cast] theorem tyf_96 : tyf Try.prog 96 = some (TyF.mk true 0 0 (Value.agg (#[]))) := by kernel_rfl
@[push_cast] theorem placesT_96 : placesT Try.prog 96 = some [(0, 0)] := by kernel_rfl
@[push_cast] theorem tyf_97 : tyf Try.prog 97 = some (TyF.mk true 0 0 (Value.agg (#[]))) := by kernel_rfl
@[push_cast] theorem placesT_97 : placesT Try.prog 97 = some [(0, 0)] := by kernel_rfl
@[push_cast] theorem tyf_98 : tyf Try.prog 98 = some (TyF.mk false 1 8 Value.nilFunc) := by kernel_rfl
@[push_cast] theorem tyf_99 : tyf Try.prog 99 = some (TyF.mk false 1 4 (Value.int IntKind.u32 (0))) := by kernel_rfl
@[push_cast] theorem intT_99 : intT Try.prog 99 = some IntKind.u32 := by kernel_rfl
@[push_cast] theorem callable_2 : callable Try.prog 2 = true := by kernel_rfl
@[push_cast] theorem callable_3 : callable Try.prog 3 = true := by kernel_rfl
@[push_cast] theorem callable_4 : callable Try.prog 4 = true := by kernel_rfl
@[push_cast] theorem callable_5 : callable Try.prog 5 = true := by kernel_rfl
@[push_cast] theorem callable_6 : callable Try.prog 6 = true := by kernel_rfl
@[push_cast] theorem callable_7 : callable Try.prog 7 = true := by kernel_rfl
@[push_cast] theorem callable_8 : callable Try.prog 8 = true := by kernel_rfl
@[push_cast] theorem callable_9 : callable Try.prog 9 = true := by kernel_rfl
@[push_cast] theorem callable_10 : callable Try.prog 10 = true := by kernel_rfl
@[push_cast] theorem callable_11 : callable Try.prog 11 = true := by kernel_rfl
@[push_cast] theorem callable_12 : callable Try.prog 12 = true := by kernel_rfl
@[push_cast] theorem callable_13 : callable Try.prog 13 = true := by kernel_rfl
@[push_cast] theorem callable_14 : callable Try.prog 14 = true := by kernel_rfl
@[push_cast] theorem callable_15 : callable Try.prog 15 = true := by kernel_rfl
@[push_cast] theorem callable_16 : callable Try.prog 16 = true := by kernel_rfl
@[push_cast] theorem callable_17 : callable Try.prog 17 = true := by kernel_rfl
@[push_cast] theorem callable_18 : callable Try.prog 18 = true := by kernel_rfl
@[push_cast] theorem callable_19 : callable Try.prog 19 = true := by kernel_rfl
@[push_cast] theorem callable_20 : callable Try.prog 20 = true := by kernel_rfl
@[push_cast] theorem callable_21 : callable Try.prog 21 = true := by kernel_rfl
@[push_cast] theorem callable_22 : callable Try.prog 22 = true := by kernel_rfl
@[push_cast] theorem callable_23 : callable Try.prog 23 = true := by kernel_rfl
@[push_cast] theorem callable_24 : callable Try.prog 24 = true := by kernel_rfl
@[push_cast] theorem callable_25 : callable Try.prog 25 = true := by kernel_rfl
@[push_cast] theorem callable_26 : callable Try.prog 26 = true := by kernel_rfl
@[push_cast] theorem callable_27 : callable Try.prog 27 = true := by kernel_rfl
@[push_cast] theorem callable_28 : callable Try.prog 28 = true := by kernel_rfl
@[push_cast] theorem callable_29 : callable Try.prog 29 = true := by kernel_rfl
@[push_cast] theorem callable_30 : callable Try.prog 30 = true := by kernel_rfl
@[push_cast] theorem callable_31 : callable Try.prog 31 = true := by kernel_rfl
@[push_cast] theorem callable_32 : callable Try.prog 32 = true := by kernel_rfl
@[push_cast] theorem callable_33 : callable Try.prog 33 = true := by kernel_rfl
@[push_cast] theorem callable_34 : callable Try.prog 34 = true := by kernel_rfl
@[push_cast] theorem callable_35 : callable Try.prog 35 = true := by kernel_rfl
@[push_cast] theorem callable_36 : callable Try.prog 36 = true := by kernel_rfl
@[push_cast] theorem callable_37 : callable Try.prog 37 = true := by kernel_rfl
@[push_cast] theorem callable_38 : callable Try.prog 38 = true := by kernel_rfl
@[push_cast] theorem callable_39 : callable Try.prog 39 = true := by kernel_rfl
@[push_cast] theorem callable_40 : callable Try.prog 40 = true := by kernel_rfl
@[push_cast] theorem callable_41 : callable Try.prog 41 = true := by kernel_rfl
@[push_cast] theorem callable_42 : callable Try.prog 42 = true := by kernel_rfl
@[push_cast] theorem callable_43 : callable Try.prog 43 = true := by kernel_rfl
@[push_cast] theorem callable_44 : callable Try.prog 44 = true := by kernel_rfl
@[push_cast] theorem callable_45 : callable Try.prog 45 = true := by kernel_rfl
@[push_cast] theorem callable_46 : callable Try.prog 46 = true := by kernel_rfl
@[push_cast] theorem callable_47 : callable Try.prog 47 = true := by kernel_rfl
@[push_cast] theorem callable_48 : callable Try.prog 48 = true := by kernel_rfl
@[push_cast] theorem callable_49 : callable Try.prog 49 = true := by kernel_rfl
@[push_cast] theorem callable_50 : callable Try.prog 50 = true := by kernel_rfl
@[push_cast] theorem callable_51 : callable Try.prog 51 = true := by kernel_rfl
@[push_cast] theorem callable_52 : callable Try.prog 52 = true := by kernel_rfl
@[push_cast] theorem callable_53 : callable Try.prog 53 = true := by kernel_rfl
@[push_cast] theorem callable_54 : callable Try.prog 54 = true := by kernel_rfl
@[push_cast] theorem callable_55 : callable Try.prog 55 = true := by kernel_rfl
end Go.Proofs.Ytohmjbgcmccplaa
