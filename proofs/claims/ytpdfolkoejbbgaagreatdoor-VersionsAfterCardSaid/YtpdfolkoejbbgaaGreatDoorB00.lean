/- Part of a proof by symbolic walks on plain data. -/
import Derived.Test.YtpdfolkoejbbgaaGreatDoorAvR
import Derived.Test.YtpdfolkoejbbgaaGreatDoorProg
import Derived.Test.YtpdfolkoejbbgaaGreatDoorC0
import Derived.Test.YtpdfolkoejbbgaaGreatDoorF4
import Derived.Lib.Strings
import Derived.Lib.Slices
import Derived.Lib.Walk
import Derived.Lib.Bytealg
set_option linter.unusedVariables false
set_option linter.unusedSimpArgs false
set_option maxHeartbeats 4000000
namespace Go.Av
open Go Go.Proofs
@[go_sem] theorem ty_kindT_3 : kindT Tryz.prog 3 = some false := by kernel_rfl
@[go_sem] theorem ty_sizeT_3 : sizeT Tryz.prog 3 = some 1 := by kernel_rfl
@[go_sem] theorem ty_bytesT_3 : bytesT Tryz.prog 3 = some 8 := by kernel_rfl
@[go_sem] theorem ty_elT_3 : elT Tryz.prog 3 = none := by kernel_rfl
@[go_sem] theorem ty_arrT_3 : arrT Tryz.prog 3 = none := by kernel_rfl
@[go_sem] theorem ty_intT_3 : intT Tryz.prog 3 = some IntKind.i64 := by kernel_rfl
@[go_sem] theorem ty_zeroT_3 : zeroT Tryz.prog 3 = some [DV.int IntKind.i64 0] := by kernel_rfl
@[go_sem] theorem ty_placesT_3 : placesT Tryz.prog 3 = none := by kernel_rfl
@[go_sem] theorem ty_zero1_3 : zero1 Tryz.prog 3 = some (KV.ki IntKind.i64 0) := by kernel_rfl
@[go_sem] theorem ty_cmpT_3 : cmpT Tryz.prog 20 3 = some [(0, 0)] := by kernel_rfl
@[go_sem] theorem ty_kindT_4 : kindT Tryz.prog 4 = some false := by kernel_rfl
@[go_sem] theorem ty_sizeT_4 : sizeT Tryz.prog 4 = some 1 := by kernel_rfl
@[go_sem] theorem ty_bytesT_4 : bytesT Tryz.prog 4 = some 1 := by kernel_rfl
@[go_sem] theorem ty_elT_4 : elT Tryz.prog 4 = none := by kernel_rfl
@[go_sem] theorem ty_arrT_4 : arrT Tryz.prog 4 = none := by kernel_rfl
@[go_sem] theorem ty_boolT_4 : boolT Tryz.prog 4 = true := by kernel_rfl
@[go_sem] theorem ty_zeroT_4 : zeroT Tryz.prog 4 = some [DV.bool false] := by kernel_rfl
@[go_sem] theorem ty_placesT_4 : placesT Tryz.prog 4 = none := by kernel_rfl
@[go_sem] theorem ty_zero1_4 : zero1 Tryz.prog 4 = some (KV.kb false) := by kernel_rfl
@[go_sem] theorem ty_cmpT_4 : cmpT Tryz.prog 20 4 = some [(0, 1)] := by kernel_rfl
@[go_sem] theorem ty_kindT_5 : kindT Tryz.prog 5 = some false := by kernel_rfl
@[go_sem] theorem ty_sizeT_5 : sizeT Tryz.prog 5 = some 1 := by kernel_rfl
@[go_sem] theorem ty_bytesT_5 : bytesT Tryz.prog 5 = some 1 := by kernel_rfl
@[go_sem] theorem ty_elT_5 : elT Tryz.prog 5 = none := by kernel_rfl
@[go_sem] theorem ty_arrT_5 : arrT Tryz.prog 5 = none := by kernel_rfl
@[go_sem] theorem ty_intT_5 : intT Tryz.prog 5 = some IntKind.u8 := by kernel_rfl
@[go_sem] theorem ty_zeroT_5 : zeroT Tryz.prog 5 = some [DV.int IntKind.u8 0] := by kernel_rfl
@[go_sem] theorem ty_placesT_5 : placesT Tryz.prog 5 = none := by kernel_rfl
@[go_sem] theorem ty_zero1_5 : zero1 Tryz.prog 5 = some (KV.ki IntKind.u8 0) := by kernel_rfl
@[go_sem] theorem ty_cmpT_5 : cmpT Tryz.prog 20 5 = some [(0, 0)] := by kernel_rfl
@[go_sem] theorem ty_kindT_9 : kindT Tryz.prog 9 = some false := by kernel_rfl
@[go_sem] theorem ty_sizeT_9 : sizeT Tryz.prog 9 = some 1 := by kernel_rfl
@[go_sem] theorem ty_bytesT_9 : bytesT Tryz.prog 9 = some 16 := by kernel_rfl
@[go_sem] theorem ty_elT_9 : elT Tryz.prog 9 = none := by kernel_rfl
@[go_sem] theorem ty_arrT_9 : arrT Tryz.prog 9 = none := by kernel_rfl
@[go_sem] theorem ty_strT_9 : strT Tryz.prog 9 = true := by kernel_rfl
@[go_sem] theorem ty_zeroT_9 : zeroT Tryz.prog 9 = some [DV.str { data := #[] }] := by kernel_rfl
@[go_sem] theorem ty_placesT_9 : placesT Tryz.prog 9 = none := by kernel_rfl
@[go_sem] theorem ty_zero1_9 : zero1 Tryz.prog 9 = some (KV.ks { data := #[] }) := by kernel_rfl
@[go_sem] theorem ty_cmpT_9 : cmpT Tryz.prog 20 9 = some [(0, 2)] := by kernel_rfl
@[go_sem] theorem ty_kindT_21 : kindT Tryz.prog 21 = some false := by kernel_rfl
@[go_sem] theorem ty_sizeT_21 : sizeT Tryz.prog 21 = some 1 := by kernel_rfl
@[go_sem] theorem ty_bytesT_21 : bytesT Tryz.prog 21 = some 4 := by kernel_rfl
@[go_sem] theorem ty_elT_21 : elT Tryz.prog 21 = none := by kernel_rfl
@[go_sem] theorem ty_arrT_21 : arrT Tryz.prog 21 = none := by kernel_rfl
@[go_sem] theorem ty_intT_21 : intT Tryz.prog 21 = some IntKind.i32 := by kernel_rfl
@[go_sem] theorem ty_zeroT_21 : zeroT Tryz.prog 21 = some [DV.int IntKind.i32 0] := by kernel_rfl
@[go_sem] theorem ty_placesT_21 : placesT Tryz.prog 21 = none := by kernel_rfl
@[go_sem] theorem ty_zero1_21 : zero1 Tryz.prog 21 = some (KV.ki IntKind.i32 0) := by kernel_rfl
@[go_sem] theorem ty_cmpT_21 : cmpT Tryz.prog 20 21 = some [(0, 0)] := by kernel_rfl
@[go_sem] theorem ty_kindT_22 : kindT Tryz.prog 22 = some false := by kernel_rfl
@[go_sem] theorem ty_sizeT_22 : sizeT Tryz.prog 22 = some 1 := by kernel_rfl
@[go_sem] theorem ty_bytesT_22 : bytesT Tryz.prog 22 = some 24 := by kernel_rfl
@[go_sem] theorem ty_elT_22 : elT Tryz.prog 22 = some 9 := by kernel_rfl
@[go_sem] theorem ty_arrT_22 : arrT Tryz.prog 22 = none := by kernel_rfl
@[go_sem] theorem ty_zeroT_22 : zeroT Tryz.prog 22 = some [DV.nil] := by kernel_rfl
@[go_sem] theorem ty_placesT_22 : placesT Tryz.prog 22 = none := by kernel_rfl
@[go_sem] theorem ty_kindT_23 : kindT Tryz.prog 23 = some false := by kernel_rfl
@[go_sem] theorem ty_sizeT_23 : sizeT Tryz.prog 23 = some 1 := by kernel_rfl
@[go_sem] theorem ty_bytesT_23 : bytesT Tryz.prog 23 = some 24 := by kernel_rfl
@[go_sem] theorem ty_elT_23 : elT Tryz.prog 23 = some 71 := by kernel_rfl
@[go_sem] theorem ty_arrT_23 : arrT Tryz.prog 23 = none := by kernel_rfl
@[go_sem] theorem ty_zeroT_23 : zeroT Tryz.prog 23 = some [DV.nil] := by kernel_rfl
@[go_sem] theorem ty_placesT_23 : placesT Tryz.prog 23 = none := by kernel_rfl
@[go_sem] theorem ty_kindT_24 : kindT Tryz.prog 24 = some false := by kernel_rfl
@[go_sem] theorem ty_sizeT_24 : sizeT Tryz.prog 24 = some 1 := by kernel_rfl
@[go_sem] theorem ty_bytesT_24 : bytesT Tryz.prog 24 = some 24 := by kernel_rfl
@[go_sem] theorem ty_elT_24 : elT Tryz.prog 24 = some 65 := by kernel_rfl
@[go_sem] theorem ty_arrT_24 : arrT Tryz.prog 24 = none := by kernel_rfl
@[go_sem] theorem ty_zeroT_24 : zeroT Tryz.prog 24 = some [DV.nil] := by kernel_rfl
@[go_sem] theorem ty_placesT_24 : placesT Tryz.prog 24 = none := by kernel_rfl
@[go_sem] theorem ty_kindT_25 : kindT Tryz.prog 25 = some false := by kernel_rfl
@[go_sem] theorem ty_sizeT_25 : sizeT Tryz.prog 25 = some 1 := by kernel_rfl
@[go_sem] theorem ty_bytesT_25 : bytesT Tryz.prog 25 = some 24 := by kernel_rfl
@[go_sem] theorem ty_elT_25 : elT Tryz.prog 25 = some 118 := by kernel_rfl
@[go_sem] theorem ty_arrT_25 : arrT Tryz.prog 25 = none := by kernel_rfl
@[go_sem] theorem ty_zeroT_25 : zeroT Tryz.prog 25 = some [DV.nil] := by kernel_rfl
@[go_sem] theorem ty_placesT_25 : placesT Tryz.prog 25 = none := by kernel_rfl
@[go_sem] theorem ty_kindT_27 : kindT Tryz.prog 27 = some true := by kernel_rfl
@[go_sem] theorem ty_sizeT_27 : sizeT Tryz.prog 27 = some 8 := by kernel_rfl
@[go_sem] theorem ty_bytesT_27 : bytesT Tryz.prog 27 = some 136 := by kernel_rfl
@[go_sem] theorem ty_elT_27 : elT Tryz.prog 27 = none := by kernel_rfl
@[go_sem] theorem ty_arrT_27 : arrT Tryz.prog 27 = none := by kernel_rfl
@[go_sem] theorem ty_zeroT_27 : zeroT Tryz.prog 27 = some [DV.str { data := #[] }, DV.nil, DV.nil, DV.int IntKind.i64 0, DV.int IntKind.i64 0, DV.int IntKind.i64 0, DV.nil, DV.nil] := by kernel_rfl
@[go_sem] theorem ty_placesT_27 : placesT Tryz.prog 27 = some [(0, 1), (1, 1), (2, 1), (3, 1), (4, 1), (5, 1), (6, 1), (7, 1)] := by kernel_rfl
@[go_sem] theorem ty_fldT0_27 : fldT Tryz.prog 27 0 = some (0, 9) := by kernel_rfl
@[go_sem] theorem ty_fldT1_27 : fldT Tryz.prog 27 1 = some (1, 22) := by kernel_rfl
@[go_sem] theorem ty_fldT2_27 : fldT Tryz.prog 27 2 = some (2, 23) := by kernel_rfl
@[go_sem] theorem ty_fldT3_27 : fldT Tryz.prog 27 3 = some (3, 3) := by kernel_rfl
@[go_sem] theorem ty_fldT4_27 : fldT Tryz.prog 27 4 = some (4, 3) := by kernel_rfl
@[go_sem] theorem ty_fldT5_27 : fldT Tryz.prog 27 5 = some (5, 3) := by kernel_rfl
@[go_sem] theorem ty_fldT6_27 : fldT Tryz.prog 27 6 = some (6, 24) := by kernel_rfl
@[go_sem] theorem ty_fldT7_27 : fldT Tryz.prog 27 7 = some (7, 25) := by kernel_rfl
@[go_sem] theorem ty_kindT_28 : kindT Tryz.prog 28 = some false := by kernel_rfl
@[go_sem] theorem ty_sizeT_28 : sizeT Tryz.prog 28 = some 1 := by kernel_rfl
@[go_sem] theorem ty_bytesT_28 : bytesT Tryz.prog 28 = some 24 := by kernel_rfl
@[go_sem] theorem ty_elT_28 : elT Tryz.prog 28 = some 52 := by kernel_rfl
@[go_sem] theorem ty_arrT_28 : arrT Tryz.prog 28 = none := by kernel_rfl
@[go_sem] theorem ty_zeroT_28 : zeroT Tryz.prog 28 = some [DV.nil] := by kernel_rfl
@[go_sem] theorem ty_placesT_28 : placesT Tryz.prog 28 = none := by kernel_rfl
@[go_sem] theorem ty_kindT_34 : kindT Tryz.prog 34 = some false := by kernel_rfl
@[go_sem] theorem ty_sizeT_34 : sizeT Tryz.prog 34 = some 1 := by kernel_rfl
@[go_sem] theorem ty_bytesT_34 : bytesT Tryz.prog 34 = some 24 := by kernel_rfl
@[go_sem] theorem ty_elT_34 : elT Tryz.prog 34 = some 88 := by kernel_rfl
@[go_sem] theorem ty_arrT_34 : arrT Tryz.prog 34 = none := by kernel_rfl
@[go_sem] theorem ty_zeroT_34 : zeroT Tryz.prog 34 = some [DV.nil] := by kernel_rfl
@[go_sem] theorem ty_placesT_34 : placesT Tryz.prog 34 = none := by kernel_rfl
@[go_sem] theorem ty_kindT_37 : kindT Tryz.prog 37 = some false := by kernel_rfl
@[go_sem] theorem ty_sizeT_37 : sizeT Tryz.prog 37 = some 1 := by kernel_rfl
@[go_sem] theorem ty_bytesT_37 : bytesT Tryz.prog 37 = some 24 := by kernel_rfl
@[go_sem] theorem ty_elT_37 : elT Tryz.prog 37 = some 3 := by kernel_rfl
@[go_sem] theorem ty_arrT_37 : arrT Tryz.prog 37 = none := by kernel_rfl
@[go_sem] theorem ty_zeroT_37 : zeroT Tryz.prog 37 = some [DV.nil] := by kernel_rfl
@[go_sem] theorem ty_placesT_37 : placesT Tryz.prog 37 = none := by kernel_rfl
@[go_sem] theorem ty_kindT_38 : kindT Tryz.prog 38 = some false := by kernel_rfl
@[go_sem] theorem ty_sizeT_38 : sizeT Tryz.prog 38 = some 1 := by kernel_rfl
@[go_sem] theorem ty_bytesT_38 : bytesT Tryz.prog 38 = some 24 := by kernel_rfl
@[go_sem] theorem ty_elT_38 : elT Tryz.prog 38 = some 61 := by kernel_rfl
@[go_sem] theorem ty_arrT_38 : arrT Tryz.prog 38 = none := by kernel_rfl
@[go_sem] theorem ty_zeroT_38 : zeroT Tryz.prog 38 = some [DV.nil] := by kernel_rfl
@[go_sem] theorem ty_placesT_38 : placesT Tryz.prog 38 = none := by kernel_rfl
@[go_sem] theorem ty_kindT_39 : kindT Tryz.prog 39 = some false := by kernel_rfl
@[go_sem] theorem ty_sizeT_39 : sizeT Tryz.prog 39 = some 1 := by kernel_rfl
@[go_sem] theorem ty_bytesT_39 : bytesT Tryz.prog 39 = some 24 := by kernel_rfl
@[go_sem] theorem ty_elT_39 : elT Tryz.prog 39 = some 4 := by kernel_rfl
@[go_sem] theorem ty_arrT_39 : arrT Tryz.prog 39 = none := by kernel_rfl
@[go_sem] theorem ty_zeroT_39 : zeroT Tryz.prog 39 = some [DV.nil] := by kernel_rfl
@[go_sem] theorem ty_placesT_39 : placesT Tryz.prog 39 = none := by kernel_rfl
@[go_sem] theorem ty_kindT_42 : kindT Tryz.prog 42 = some false := by kernel_rfl
@[go_sem] theorem ty_sizeT_42 : sizeT Tryz.prog 42 = some 1 := by kernel_rfl
@[go_sem] theorem ty_bytesT_42 : bytesT Tryz.prog 42 = some 8 := by kernel_rfl
@[go_sem] theorem ty_elT_42 : elT Tryz.prog 42 = none := by kernel_rfl
@[go_sem] theorem ty_arrT_42 : arrT Tryz.prog 42 = none := by kernel_rfl
@[go_sem] theorem ty_intT_42 : intT Tryz.prog 42 = some IntKind.i64 := by kernel_rfl
@[go_sem] theorem ty_zeroT_42 : zeroT Tryz.prog 42 = some [DV.int IntKind.i64 0] := by kernel_rfl
@[go_sem] theorem ty_placesT_42 : placesT Tryz.prog 42 = none := by kernel_rfl
@[go_sem] theorem ty_zero1_42 : zero1 Tryz.prog 42 = some (KV.ki IntKind.i64 0) := by kernel_rfl
@[go_sem] theorem ty_cmpT_42 : cmpT Tryz.prog 20 42 = some [(0, 0)] := by kernel_rfl
@[go_sem] theorem ty_kindT_52 : kindT Tryz.prog 52 = some true := by kernel_rfl
@[go_sem] theorem ty_sizeT_52 : sizeT Tryz.prog 52 = some 3 := by kernel_rfl
@[go_sem] theorem ty_bytesT_52 : bytesT Tryz.prog 52 = some 24 := by kernel_rfl
@[go_sem] theorem ty_elT_52 : elT Tryz.prog 52 = none := by kernel_rfl
@[go_sem] theorem ty_arrT_52 : arrT Tryz.prog 52 = none := by kernel_rfl
@[go_sem] theorem ty_zeroT_52 : zeroT Tryz.prog 52 = some [DV.int IntKind.i64 0, DV.int IntKind.i64 0, DV.int IntKind.i64 0] := by kernel_rfl
@[go_sem] theorem ty_placesT_52 : placesT Tryz.prog 52 = some [(0, 1), (1, 1), (2, 1)] := by kernel_rfl
@[go_sem] theorem ty_cmpT_52 : cmpT Tryz.prog 20 52 = some [(0, 0), (1, 0), (2, 0)] := by kernel_rfl
@[go_sem] theorem ty_fldT0_52 : fldT Tryz.prog 52 0 = some (0, 3) := by kernel_rfl
@[go_sem] theorem ty_fldT1_52 : fldT Tryz.prog 52 1 = some (1, 3) := by kernel_rfl
@[go_sem] theorem ty_fldT2_52 : fldT Tryz.prog 52 2 = some (2, 3) := by kernel_rfl
@[go_sem] theorem ty_kindT_61 : kindT Tryz.prog 61 = some true := by kernel_rfl
@[go_sem] theorem ty_sizeT_61 : sizeT Tryz.prog 61 = some 2 := by kernel_rfl
@[go_sem] theorem ty_bytesT_61 : bytesT Tryz.prog 61 = some 16 := by kernel_rfl
@[go_sem] theorem ty_elT_61 : elT Tryz.prog 61 = none := by kernel_rfl
@[go_sem] theorem ty_arrT_61 : arrT Tryz.prog 61 = some (2, 3) := by kernel_rfl
@[go_sem] theorem ty_zeroT_61 : zeroT Tryz.prog 61 = some [DV.int IntKind.i64 0, DV.int IntKind.i64 0] := by kernel_rfl
@[go_sem] theorem ty_placesT_61 : placesT Tryz.prog 61 = none := by kernel_rfl
@[go_sem] theorem ty_cmpT_61 : cmpT Tryz.prog 20 61 = some [(0, 0), (1, 0)] := by kernel_rfl
@[go_sem] theorem ty_kindT_65 : kindT Tryz.prog 65 = some true := by kernel_rfl
@[go_sem] theorem ty_sizeT_65 : sizeT Tryz.prog 65 = some 6 := by kernel_rfl
@[go_sem] theorem ty_bytesT_65 : bytesT Tryz.prog 65 = some 48 := by kernel_rfl
@[go_sem] theorem ty_elT_65 : elT Tryz.prog 65 = none := by kernel_rfl
@[go_sem] theorem ty_arrT_65 : arrT Tryz.prog 65 = none := by kernel_rfl
@[go_sem] theorem ty_zeroT_65 : zeroT Tryz.prog 65 = some [DV.int IntKind.i64 0, DV.int IntKind.i64 0, DV.int IntKind.i64 0, DV.int IntKind.i64 0, DV.int IntKind.i64 0, DV.bool false] := by kernel_rfl
@[go_sem] theorem ty_placesT_65 : placesT Tryz.prog 65 = some [(0, 1), (1, 3), (4, 1), (5, 1)] := by kernel_rfl
@[go_sem] theorem ty_cmpT_65 : cmpT Tryz.prog 20 65 = some [(0, 0), (1, 0), (2, 0), (3, 0), (4, 0), (5, 1)] := by kernel_rfl
@[go_sem] theorem ty_fldT0_65 : fldT Tryz.prog 65 0 = some (0, 3) := by kernel_rfl
@[go_sem] theorem ty_fldT1_65 : fldT Tryz.prog 65 1 = some (1, 52) := by kernel_rfl
@[go_sem] theorem ty_fldT2_65 : fldT Tryz.prog 65 2 = some (4, 3) := by kernel_rfl
@[go_sem] theorem ty_fldT3_65 : fldT Tryz.prog 65 3 = some (5, 4) := by kernel_rfl
@[go_sem] theorem ty_kindT_66 : kindT Tryz.prog 66 = some false := by kernel_rfl
@[go_sem] theorem ty_sizeT_66 : sizeT Tryz.prog 66 = some 1 := by kernel_rfl
@[go_sem] theorem ty_bytesT_66 : bytesT Tryz.prog 66 = some 24 := by kernel_rfl
@[go_sem] theorem ty_elT_66 : elT Tryz.prog 66 = some 123 := by kernel_rfl
@[go_sem] theorem ty_arrT_66 : arrT Tryz.prog 66 = none := by kernel_rfl
@[go_sem] theorem ty_zeroT_66 : zeroT Tryz.prog 66 = some [DV.nil] := by kernel_rfl
@[go_sem] theorem ty_placesT_66 : placesT Tryz.prog 66 = none := by kernel_rfl
@[go_sem] theorem ty_kindT_67 : kindT Tryz.prog 67 = some false := by kernel_rfl
@[go_sem] theorem ty_sizeT_67 : sizeT Tryz.prog 67 = some 1 := by kernel_rfl
@[go_sem] theorem ty_bytesT_67 : bytesT Tryz.prog 67 = some 24 := by kernel_rfl
@[go_sem] theorem ty_elT_67 : elT Tryz.prog 67 = some 126 := by kernel_rfl
@[go_sem] theorem ty_arrT_67 : arrT Tryz.prog 67 = none := by kernel_rfl
@[go_sem] theorem ty_zeroT_67 : zeroT Tryz.prog 67 = some [DV.nil] := by kernel_rfl
@[go_sem] theorem ty_placesT_67 : placesT Tryz.prog 67 = none := by kernel_rfl
@[go_sem] theorem ty_kindT_69 : kindT Tryz.prog 69 = some true := by kernel_rfl
@[go_sem] theorem ty_sizeT_69 : sizeT Tryz.prog 69 = some 2 := by kernel_rfl
@[go_sem] theorem ty_bytesT_69 : bytesT Tryz.prog 69 = some 48 := by kernel_rfl
@[go_sem] theorem ty_elT_69 : elT Tryz.prog 69 = none := by kernel_rfl
@[go_sem] theorem ty_arrT_69 : arrT Tryz.prog 69 = none := by kernel_rfl
@[go_sem] theorem ty_zeroT_69 : zeroT Tryz.prog 69 = some [DV.nil, DV.nil] := by kernel_rfl
@[go_sem] theorem ty_placesT_69 : placesT Tryz.prog 69 = some [(0, 1), (1, 1)] := by kernel_rfl
@[go_sem] theorem ty_fldT0_69 : fldT Tryz.prog 69 0 = some (0, 67) := by kernel_rfl
@[go_sem] theorem ty_fldT1_69 : fldT Tryz.prog 69 1 = some (1, 38) := by kernel_rfl
@[go_sem] theorem ty_kindT_71 : kindT Tryz.prog 71 = some true := by kernel_rfl
@[go_sem] theorem ty_sizeT_71 : sizeT Tryz.prog 71 = some 5 := by kernel_rfl
@[go_sem] theorem ty_bytesT_71 : bytesT Tryz.prog 71 = some 96 := by kernel_rfl
@[go_sem] theorem ty_elT_71 : elT Tryz.prog 71 = none := by kernel_rfl
@[go_sem] theorem ty_arrT_71 : arrT Tryz.prog 71 = none := by kernel_rfl
@[go_sem] theorem ty_zeroT_71 : zeroT Tryz.prog 71 = some [DV.str { data := #[] }, DV.nil, DV.int IntKind.i64 0, DV.nil, DV.nil] := by kernel_rfl
@[go_sem] theorem ty_placesT_71 : placesT Tryz.prog 71 = some [(0, 1), (1, 1), (2, 1), (3, 2)] := by kernel_rfl
@[go_sem] theorem ty_fldT0_71 : fldT Tryz.prog 71 0 = some (0, 9) := by kernel_rfl
@[go_sem] theorem ty_fldT1_71 : fldT Tryz.prog 71 1 = some (1, 66) := by kernel_rfl
@[go_sem] theorem ty_fldT2_71 : fldT Tryz.prog 71 2 = some (2, 3) := by kernel_rfl
@[go_sem] theorem ty_fldT3_71 : fldT Tryz.prog 71 3 = some (3, 69) := by kernel_rfl
@[go_sem] theorem ty_kindT_73 : kindT Tryz.prog 73 = some false := by kernel_rfl
@[go_sem] theorem ty_sizeT_73 : sizeT Tryz.prog 73 = some 1 := by kernel_rfl
@[go_sem] theorem ty_bytesT_73 : bytesT Tryz.prog 73 = some 24 := by kernel_rfl
@[go_sem] theorem ty_elT_73 : elT Tryz.prog 73 = some 28 := by kernel_rfl
@[go_sem] theorem ty_arrT_73 : arrT Tryz.prog 73 = none := by kernel_rfl
@[go_sem] theorem ty_zeroT_73 : zeroT Tryz.prog 73 = some [DV.nil] := by kernel_rfl
@[go_sem] theorem ty_placesT_73 : placesT Tryz.prog 73 = none := by kernel_rfl
@[go_sem] theorem ty_kindT_81 : kindT Tryz.prog 81 = some false := by kernel_rfl
@[go_sem] theorem ty_sizeT_81 : sizeT Tryz.prog 81 = some 1 := by kernel_rfl
@[go_sem] theorem ty_bytesT_81 : bytesT Tryz.prog 81 = some 24 := by kernel_rfl
@[go_sem] theorem ty_elT_81 : elT Tryz.prog 81 = some 34 := by kernel_rfl
@[go_sem] theorem ty_arrT_81 : arrT Tryz.prog 81 = none := by kernel_rfl
@[go_sem] theorem ty_zeroT_81 : zeroT Tryz.prog 81 = some [DV.nil] := by kernel_rfl
@[go_sem] theorem ty_placesT_81 : placesT Tryz.prog 81 = none := by kernel_rfl
@[go_sem] theorem ty_kindT_88 : kindT Tryz.prog 88 = some true := by kernel_rfl
@[go_sem] theorem ty_sizeT_88 : sizeT Tryz.prog 88 = some 5 := by kernel_rfl
@[go_sem] theorem ty_bytesT_88 : bytesT Tryz.prog 88 = some 56 := by kernel_rfl
@[go_sem] theorem ty_elT_88 : elT Tryz.prog 88 = none := by kernel_rfl
@[go_sem] theorem ty_arrT_88 : arrT Tryz.prog 88 = none := by kernel_rfl
@[go_sem] theorem ty_zeroT_88 : zeroT Tryz.prog 88 = some [DV.int IntKind.i64 0, DV.bool false, DV.int IntKind.i64 0, DV.int IntKind.i64 0, DV.nil] := by kernel_rfl
@[go_sem] theorem ty_placesT_88 : placesT Tryz.prog 88 = some [(0, 1), (1, 1), (2, 1), (3, 1), (4, 1)] := by kernel_rfl
@[go_sem] theorem ty_fldT0_88 : fldT Tryz.prog 88 0 = some (0, 3) := by kernel_rfl
@[go_sem] theorem ty_fldT1_88 : fldT Tryz.prog 88 1 = some (1, 4) := by kernel_rfl
@[go_sem] theorem ty_fldT2_88 : fldT Tryz.prog 88 2 = some (2, 3) := by kernel_rfl
@[go_sem] theorem ty_fldT3_88 : fldT Tryz.prog 88 3 = some (3, 3) := by kernel_rfl
@[go_sem] theorem ty_fldT4_88 : fldT Tryz.prog 88 4 = some (4, 86) := by kernel_rfl
@[go_sem] theorem ty_kindT_118 : kindT Tryz.prog 118 = some true := by kernel_rfl
@[go_sem] theorem ty_sizeT_118 : sizeT Tryz.prog 118 = some 3 := by kernel_rfl
@[go_sem] theorem ty_bytesT_118 : bytesT Tryz.prog 118 = some 24 := by kernel_rfl
@[go_sem] theorem ty_elT_118 : elT Tryz.prog 118 = none := by kernel_rfl
@[go_sem] theorem ty_arrT_118 : arrT Tryz.prog 118 = none := by kernel_rfl
@[go_sem] theorem ty_zeroT_118 : zeroT Tryz.prog 118 = some [DV.int IntKind.i64 0, DV.int IntKind.i64 0, DV.int IntKind.i64 0] := by kernel_rfl
@[go_sem] theorem ty_placesT_118 : placesT Tryz.prog 118 = some [(0, 1), (1, 1), (2, 1)] := by kernel_rfl
@[go_sem] theorem ty_cmpT_118 : cmpT Tryz.prog 20 118 = some [(0, 0), (1, 0), (2, 0)] := by kernel_rfl
@[go_sem] theorem ty_fldT0_118 : fldT Tryz.prog 118 0 = some (0, 3) := by kernel_rfl
@[go_sem] theorem ty_fldT1_118 : fldT Tryz.prog 118 1 = some (1, 3) := by kernel_rfl
@[go_sem] theorem ty_fldT2_118 : fldT Tryz.prog 118 2 = some (2, 3) := by kernel_rfl
@[go_sem] theorem ty_kindT_121 : kindT Tryz.prog 121 = some true := by kernel_rfl
@[go_sem] theorem ty_sizeT_121 : sizeT Tryz.prog 121 = some 3 := by kernel_rfl
@[go_sem] theorem ty_bytesT_121 : bytesT Tryz.prog 121 = some 24 := by kernel_rfl
@[go_sem] theorem ty_elT_121 : elT Tryz.prog 121 = none := by kernel_rfl
@[go_sem] theorem ty_arrT_121 : arrT Tryz.prog 121 = none := by kernel_rfl
@[go_sem] theorem ty_zeroT_121 : zeroT Tryz.prog 121 = some [DV.int IntKind.i64 0, DV.int IntKind.i64 0, DV.int IntKind.i64 0] := by kernel_rfl
@[go_sem] theorem ty_placesT_121 : placesT Tryz.prog 121 = some [(0, 1), (1, 1), (2, 1)] := by kernel_rfl
@[go_sem] theorem ty_cmpT_121 : cmpT Tryz.prog 20 121 = some [(0, 0), (1, 0), (2, 0)] := by kernel_rfl
@[go_sem] theorem ty_fldT0_121 : fldT Tryz.prog 121 0 = some (0, 3) := by kernel_rfl
@[go_sem] theorem ty_fldT1_121 : fldT Tryz.prog 121 1 = some (1, 3) := by kernel_rfl
@[go_sem] theorem ty_fldT2_121 : fldT Tryz.prog 121 2 = some (2, 3) := by kernel_rfl
@[go_sem] theorem ty_kindT_123 : kindT Tryz.prog 123 = some true := by kernel_rfl
@[go_sem] theorem ty_sizeT_123 : sizeT Tryz.prog 123 = some 4 := by kernel_rfl
@[go_sem] theorem ty_bytesT_123 : bytesT Tryz.prog 123 = some 40 := by kernel_rfl
@[go_sem] theorem ty_elT_123 : elT Tryz.prog 123 = none := by kernel_rfl
@[go_sem] theorem ty_arrT_123 : arrT Tryz.prog 123 = none := by kernel_rfl
@[go_sem] theorem ty_zeroT_123 : zeroT Tryz.prog 123 = some [DV.str { data := #[] }, DV.int IntKind.i64 0, DV.int IntKind.i64 0, DV.int IntKind.i64 0] := by kernel_rfl
@[go_sem] theorem ty_placesT_123 : placesT Tryz.prog 123 = some [(0, 1), (1, 3)] := by kernel_rfl
@[go_sem] theorem ty_cmpT_123 : cmpT Tryz.prog 20 123 = some [(0, 2), (1, 0), (2, 0), (3, 0)] := by kernel_rfl
@[go_sem] theorem ty_fldT0_123 : fldT Tryz.prog 123 0 = some (0, 9) := by kernel_rfl
@[go_sem] theorem ty_fldT1_123 : fldT Tryz.prog 123 1 = some (1, 121) := by kernel_rfl
@[go_sem] theorem ty_kindT_126 : kindT Tryz.prog 126 = some true := by kernel_rfl
@[go_sem] theorem ty_sizeT_126 : sizeT Tryz.prog 126 = some 3 := by kernel_rfl
@[go_sem] theorem ty_bytesT_126 : bytesT Tryz.prog 126 = some 24 := by kernel_rfl
@[go_sem] theorem ty_elT_126 : elT Tryz.prog 126 = none := by kernel_rfl
@[go_sem] theorem ty_arrT_126 : arrT Tryz.prog 126 = none := by kernel_rfl
@[go_sem] theorem ty_zeroT_126 : zeroT Tryz.prog 126 = some [DV.int IntKind.i64 0, DV.int IntKind.i64 0, DV.int IntKind.i64 0] := by kernel_rfl
@[go_sem] theorem ty_placesT_126 : placesT Tryz.prog 126 = some [(0, 1), (1, 1), (2, 1)] := by kernel_rfl
@[go_sem] theorem ty_cmpT_126 : cmpT Tryz.prog 20 126 = some [(0, 0), (1, 0), (2, 0)] := by kernel_rfl
@[go_sem] theorem ty_fldT0_126 : fldT Tryz.prog 126 0 = some (0, 3) := by kernel_rfl
@[go_sem] theorem ty_fldT1_126 : fldT Tryz.prog 126 1 = some (1, 3) := by kernel_rfl
@[go_sem] theorem ty_fldT2_126 : fldT Tryz.prog 126 2 = some (2, 3) := by kernel_rfl
@[go_sem] theorem ty_kindT_152 : kindT Tryz.prog 152 = some true := by kernel_rfl
@[go_sem] theorem ty_sizeT_152 : sizeT Tryz.prog 152 = some 3 := by kernel_rfl
@[go_sem] theorem ty_bytesT_152 : bytesT Tryz.prog 152 = some 24 := by kernel_rfl
@[go_sem] theorem ty_elT_152 : elT Tryz.prog 152 = none := by kernel_rfl
@[go_sem] theorem ty_arrT_152 : arrT Tryz.prog 152 = some (3, 3) := by kernel_rfl
@[go_sem] theorem ty_zeroT_152 : zeroT Tryz.prog 152 = some [DV.int IntKind.i64 0, DV.int IntKind.i64 0, DV.int IntKind.i64 0] := by kernel_rfl
@[go_sem] theorem ty_placesT_152 : placesT Tryz.prog 152 = none := by kernel_rfl
@[go_sem] theorem ty_cmpT_152 : cmpT Tryz.prog 20 152 = some [(0, 0), (1, 0), (2, 0)] := by kernel_rfl
@[go_sem] theorem ty_kindT_162 : kindT Tryz.prog 162 = some true := by kernel_rfl
@[go_sem] theorem ty_sizeT_162 : sizeT Tryz.prog 162 = some 28 := by kernel_rfl
@[go_sem] theorem ty_bytesT_162 : bytesT Tryz.prog 162 = some 448 := by kernel_rfl
@[go_sem] theorem ty_elT_162 : elT Tryz.prog 162 = none := by kernel_rfl
@[go_sem] theorem ty_arrT_162 : arrT Tryz.prog 162 = some (28, 9) := by kernel_rfl
@[go_sem] theorem ty_zeroT_162 : zeroT Tryz.prog 162 = some [DV.str { data := #[] }, DV.str { data := #[] }, DV.str { data := #[] }, DV.str { data := #[] }, DV.str { data := #[] }, DV.str { data := #[] }, DV.str { data := #[] }, DV.str { data := #[] }, DV.str { data := #[] }, DV.str { data := #[] }, DV.str { data := #[] }, DV.str { data := #[] }, DV.str { data := #[] }, DV.str { data := #[] }, DV.str { data := #[] }, DV.str { data := #[] }, DV.str { data := #[] }, DV.str { data := #[] }, DV.str { data := #[] }, DV.str { data := #[] }, DV.str { data := #[] }, DV.str { data := #[] }, DV.str { data := #[] }, DV.str { data := #[] }, DV.str { data := #[] }, DV.str { data := #[] }, DV.str { data := #[] }, DV.str { data := #[] }] := by kernel_rfl
@[go_sem] theorem ty_placesT_162 : placesT Tryz.prog 162 = none := by kernel_rfl
@[go_sem] theorem ty_cmpT_162 : cmpT Tryz.prog 20 162 = some [(0, 2), (1, 2), (2, 2), (3, 2), (4, 2), (5, 2), (6, 2), (7, 2), (8, 2), (9, 2), (10, 2), (11, 2), (12, 2), (13, 2), (14, 2), (15, 2), (16, 2), (17, 2), (18, 2), (19, 2), (20, 2), (21, 2), (22, 2), (23, 2), (24, 2), (25, 2), (26, 2), (27, 2)] := by kernel_rfl
@[go_sem] theorem ty_kindT_164 : kindT Tryz.prog 164 = some false := by kernel_rfl
@[go_sem] theorem ty_sizeT_164 : sizeT Tryz.prog 164 = some 1 := by kernel_rfl
@[go_sem] theorem ty_bytesT_164 : bytesT Tryz.prog 164 = some 8 := by kernel_rfl
@[go_sem] theorem ty_elT_164 : elT Tryz.prog 164 = none := by kernel_rfl
@[go_sem] theorem ty_arrT_164 : arrT Tryz.prog 164 = none := by kernel_rfl
@[go_sem] theorem ty_intT_164 : intT Tryz.prog 164 = some IntKind.u64 := by kernel_rfl
@[go_sem] theorem ty_zeroT_164 : zeroT Tryz.prog 164 = some [DV.int IntKind.u64 0] := by kernel_rfl
@[go_sem] theorem ty_placesT_164 : placesT Tryz.prog 164 = none := by kernel_rfl
@[go_sem] theorem ty_zero1_164 : zero1 Tryz.prog 164 = some (KV.ki IntKind.u64 0) := by kernel_rfl
@[go_sem] theorem ty_cmpT_164 : cmpT Tryz.prog 20 164 = some [(0, 0)] := by kernel_rfl
@[go_sem] theorem ty_kindT_174 : kindT Tryz.prog 174 = some false := by kernel_rfl
@[go_sem] theorem ty_sizeT_174 : sizeT Tryz.prog 174 = some 1 := by kernel_rfl
@[go_sem] theorem ty_bytesT_174 : bytesT Tryz.prog 174 = some 4 := by kernel_rfl
@[go_sem] theorem ty_elT_174 : elT Tryz.prog 174 = none := by kernel_rfl
@[go_sem] theorem ty_arrT_174 : arrT Tryz.prog 174 = none := by kernel_rfl
@[go_sem] theorem ty_intT_174 : intT Tryz.prog 174 = some IntKind.u32 := by kernel_rfl
@[go_sem] theorem ty_zeroT_174 : zeroT Tryz.prog 174 = some [DV.int IntKind.u32 0] := by kernel_rfl
@[go_sem] theorem ty_placesT_174 : placesT Tryz.prog 174 = none := by kernel_rfl
@[go_sem] theorem ty_zero1_174 : zero1 Tryz.prog 174 = some (KV.ki IntKind.u32 0) := by kernel_rfl
@[go_sem] theorem ty_cmpT_174 : cmpT Tryz.prog 20 174 = some [(0, 0)] := by kernel_rfl
@[go_sem] theorem ty_kindT_177 : kindT Tryz.prog 177 = some false := by kernel_rfl
@[go_sem] theorem ty_sizeT_177 : sizeT Tryz.prog 177 = some 1 := by kernel_rfl
@[go_sem] theorem ty_bytesT_177 : bytesT Tryz.prog 177 = some 8 := by kernel_rfl
@[go_sem] theorem ty_elT_177 : elT Tryz.prog 177 = none := by kernel_rfl
@[go_sem] theorem ty_arrT_177 : arrT Tryz.prog 177 = none := by kernel_rfl
@[go_sem] theorem ty_intT_177 : intT Tryz.prog 177 = some IntKind.u64 := by kernel_rfl
@[go_sem] theorem ty_zeroT_177 : zeroT Tryz.prog 177 = some [DV.int IntKind.u64 0] := by kernel_rfl
@[go_sem] theorem ty_placesT_177 : placesT Tryz.prog 177 = none := by kernel_rfl
@[go_sem] theorem ty_zero1_177 : zero1 Tryz.prog 177 = some (KV.ki IntKind.u64 0) := by kernel_rfl
@[go_sem] theorem ty_cmpT_177 : cmpT Tryz.prog 20 177 = some [(0, 0)] := by kernel_rfl
end Go.Av
namespace Go.Av
open Go Go.RowKit Go.Proofs
set_option maxRecDepth 8000
structure Inter where
 from_ : Int
 to : Int
 label : Int
 deriving DecidableEq
def encI (x : Inter) : List DV := [.int .i64 x.from_, .int .i64 x.to, .int .i64 x.label]
structure Ev where
 role : Int
 send : Bool
 peer : Int
 label : Int
 vals : Option (List (List DV))
def valsDV : Option (List (List DV)) → DV
 | none => .nil
 | some els => .sl els
@[go_sem ↓ high] theorem flat_vals (o : Option (List (List DV))) : (valsDV o).flat = true := by cases o <;> rfl
@[go_sem ↓ high] theorem frz_vals (o : Option (List (List DV))) : (valsDV o).frz = valsDV o := by cases o <;> rfl
def encE (x : Ev) : List DV := [.int .i64 x.role, .bool x.send, .int .i64 x.peer, .int .i64 x.label, valsDV x.vals]
def encH (x : List Ev) : List DV := [.sl (x.map encE)]
def encN (x : Int) : List DV := [.int .i64 x]
@[go_sem ↓ high] theorem frz_encI (x : Inter) : frzL (encI x) = encI x := by simp [encI, frzL, DV.frz]
@[go_sem ↓ high] theorem frz_encE (x : Ev) : frzL (encE x) = encE x := by simp [encE, frzL, DV.frz, frz_vals]
@[go_sem ↓ high] theorem frz_encN (x : Int) : frzL (encN x) = encN x := by simp [encN, frzL, DV.frz]
@[go_sem ↓ high] theorem frz_encH (x : List Ev) : frzL (encH x) = encH x := by simp [encH, frzL, DV.frz]
theorem all_succ {α : Type} {p : α → Bool} {l : List α} {k : Nat} (h : k < l.length) : (l.take (k + 1)).all p = ((l.take k).all p && p l[k]) := by
 rw [List.take_succ_eq_append_getElem h, List.all_append]
 simp
theorem all_no {α : Type} {p : α → Bool} {l : List α} {k : Nat} (h : k < l.length) (hb : p l[k] = false) : l.all p = false := by
 rw [List.all_eq_false]
 exact ⟨_, List.getElem_mem h, by simp [hb]⟩
@[go_sem] theorem clo_encI (l : List Inter) : clo (l.map encI) ↔ True := by
 simp only [iff_true]
 intro e he d hd
 obtain ⟨x, _, rfl⟩ := List.mem_map.1 he
 simp only [encI, List.mem_cons, List.not_mem_nil, or_false] at hd
 rcases hd with rfl | rfl | rfl <;> exact .int _ _
@[go_sem] theorem clo_encN (l : List Int) : clo (l.map encN) ↔ True := by
 simp only [iff_true]
 intro e he d hd
 obtain ⟨x, _, rfl⟩ := List.mem_map.1 he
 simp only [encN, List.mem_cons, List.not_mem_nil, or_false] at hd
 subst hd
 exact .int _ _
end Go.Av
namespace Go.Av
open Go Go.RowKit Go.Proofs
set_option maxRecDepth 8000
theorem bytes_eq (a b : ByteArray) : (a == b) = decide (a = b) := by
 obtain ⟨a⟩ := a
 obtain ⟨b⟩ := b
 show ByteArray.beq ⟨a⟩ ⟨b⟩ = _
 unfold ByteArray.beq
 simp
 rw [Bool.eq_iff_iff]
 simp
def isDigit (c : Int) : Bool := decide (48 ≤ c) && decide (c ≤ 57)
def isLetter (c : Int) : Bool := (decide (97 ≤ c) && decide (c ≤ 122)) || (decide (65 ≤ c) && decide (c ≤ 90))
def isInner (c : Int) : Bool := isLetter c || isDigit c || decide (c = 95)
theorem f146 (c : Int) : Impl Tryz.prog 146 [.one (.int .u8 c)] (.one (.one (.bool (isDigit c)))) := by
 refine impl_intro Tryz.func146 z146.b z146.e z146.r z146.n Tryz.ntmps146 z146.d (by simp) fun hs => ?_
 simp only [c146, slotsOf]
 repeat' first | refine St.go ?_ | (refine Ru.go ?_; intro K hK; simp [go_sem]; (first | apply hK | refine ⟨by first | omega | (simp [zf, zg]; first | done | omega), ?_⟩ | refine ⟨hK _ ?_, fun h => ?_⟩ | refine ⟨?_, ?_⟩); all_goals ((try apply hK); clear hK K))
 simp [go_sem, isDigit]
theorem f131 (c : Int) : Impl Tryz.prog 131 [.one (.int .u8 c)] (.one (.one (.bool (isLetter c)))) := by
 refine impl_intro Tryz.func131 z131.b z131.e z131.r z131.n Tryz.ntmps131 z131.d (by simp) fun hs => ?_
 simp only [c131, slotsOf]
 repeat' first | refine St.go ?_ | (refine Ru.go ?_; intro K hK; simp [go_sem]; (first | apply hK | refine ⟨by first | omega | (simp [zf, zg]; first | done | omega), ?_⟩ | refine ⟨hK _ ?_, fun h => ?_⟩ | refine ⟨?_, ?_⟩); all_goals ((try apply hK); clear hK K))
 simp [go_sem, isLetter]
theorem f132 (c : Int) : Impl Tryz.prog 132 [.one (.int .u8 c)] (.one (.one (.bool (isInner c)))) := by
 refine impl_intro Tryz.func132 z132.b z132.e z132.r z132.n Tryz.ntmps132 z132.d (by simp) fun hs => ?_
 simp only [c132, slotsOf]
 cases hl : isLetter c with
 | true =>
   repeat' first | refine St.go ?_ | (refine Ru.go ?_; intro K hK; simp [go_sem, hl]; (first | apply hK | ((try refine .inl ?_); refine ⟨_, by (try intro hc); (repeat' first | exact f131 c | exact hc | refine And.intro ?_ ?_ | simp [go_sem, hl]); first | done | omega, ?_⟩; first | apply hK | (refine ⟨by simp [go_sem, hl], ?_⟩; first | apply hK | refine ⟨by simp [go_sem, hl], hK _ _ ?_⟩)) | refine ⟨.one (.one (.bool false)), by simp [go_sem, hl], hK _ _ ?_⟩ | refine ⟨by first | omega | (simp [zf, zg, hl]; first | done | omega), ?_⟩ | refine ⟨hK _ ?_, fun h => ?_⟩ | refine ⟨?_, ?_⟩); all_goals ((try apply hK); clear hK K))
   simp [go_sem, isInner, hl]
 | false =>
   repeat' first | refine St.go ?_ | (refine Ru.go ?_; intro K hK; simp [go_sem, hl]; (first | apply hK | ((try refine .inl ?_); refine ⟨_, by (try intro hc); (repeat' first | exact f131 c | exact f146 c | exact hc | refine And.intro ?_ ?_ | simp [go_sem, hl]); first | done | omega, ?_⟩; first | apply hK | (refine ⟨by simp [go_sem, hl], ?_⟩; first | apply hK | refine ⟨by simp [go_sem, hl], hK _ _ ?_⟩)) | refine ⟨.one (.one (.bool false)), by simp [go_sem, hl], hK _ _ ?_⟩ | refine ⟨by first | omega | (simp [zf, zg, hl]; first | done | omega), ?_⟩ | refine ⟨hK _ ?_, fun h => ?_⟩ | refine ⟨?_, ?_⟩); all_goals ((try apply hK); clear hK K))
   simp [go_sem, isInner, hl]
   rfl
end Go.Av
namespace Go.Av
open Go Go.RowKit Go.Proofs
set_option maxRecDepth 8000
def encS (x : ByteArray) : List DV := [.str x]
def strL (s : ByteArray) : List Int := s.data.toList.map fun b => (b.toNat : Int)
theorem strL_len (s : ByteArray) : (strL s).length = s.size := by simp [strL]
theorem strL_get {s : ByteArray} {k : Nat} (h : k < s.size) : ∃ b : UInt8, s[k]? = some b ∧ (b.toNat : Int) = (strL s)[k]'(by rw [strL_len]; exact h) := by
 refine ⟨s[k], by simp [h], ?_⟩
 simp [strL, ByteArray.getElem_eq_getElem_data]
theorem strL_at {s : ByteArray} {k : Nat} (h : k < s.size) : ((s[k]).toNat : Int) = (strL s)[k]'(by rw [strL_len]; exact h) := by
 simp [strL, ByteArray.getElem_eq_getElem_data]
theorem str_empty (s : ByteArray) : (s == ⟨#[]⟩) = decide (s.size = 0) := by
 rw [bytes_eq]
 by_cases h : s = ⟨#[]⟩
 ·subst h; rfl
 ·simp only [h, decide_false]
  symm
  rw [decide_eq_false_iff_not]
  intro h0
  apply h
  obtain ⟨d⟩ := s
  congr 1
  exact Array.eq_empty_of_size_eq_zero h0
def kws : List ByteArray := [⟨#[97, 103, 97, 105, 110]⟩, ⟨#[97, 110, 100]⟩, ⟨#[97, 115]⟩, ⟨#[97, 116]⟩, ⟨#[99, 97, 108, 108]⟩, ⟨#[99, 104, 111, 105, 99, 101]⟩, ⟨#[101, 108, 115, 101]⟩, ⟨#[102, 114, 111, 109]⟩, ⟨#[105, 102]⟩, ⟨#[105, 110, 116]⟩, ⟨#[108, 101, 110]⟩, ⟨#[108, 111, 111, 112]⟩, ⟨#[109, 101, 115, 115, 97, 103, 101]⟩, ⟨#[111, 102]⟩, ⟨#[111, 102, 102, 101, 114]⟩, ⟨#[111, 110]⟩, ⟨#[111, 114]⟩, ⟨#[112, 97, 114]⟩, ⟨#[112, 108, 97, 121, 115]⟩, ⟨#[112, 114, 111, 116, 111, 99, 111, 108]⟩, ⟨#[115, 101, 114, 118, 105, 99, 101]⟩, ⟨#[116, 101, 120, 116]⟩, ⟨#[116, 105, 109, 101, 115]⟩, ⟨#[116, 111]⟩, ⟨#[118, 97, 114]⟩, ⟨#[119, 104, 101, 114, 101]⟩, ⟨#[119, 104, 105, 108, 101]⟩, ⟨#[119, 105, 116, 104, 105, 110]⟩]
def isName (s : ByteArray) : Bool := !decide (s.size = 0) && decide (s.size ≤ 16) && isLetter ((strL s)[0]?.getD 0) && (strL s).all isInner
def hasS (l : List ByteArray) (s : ByteArray) : Bool := l.any (· == s)
def isWord (s : ByteArray) : Bool := isName s && !hasS kws s
theorem isName_zero {s : ByteArray} (h : s.size = 0) : isName s = false := by
 simp [isName, h]
theorem isName_pos {s : ByteArray} (h : 0 < s.size) : isName s = (decide (s.size ≤ 16) && isLetter ((strL s)[0]'(by rw [strL_len]; exact h)) && (strL s).all isInner) := by
 have h' : 0 < (strL s).length := by rw [strL_len]; exact h
 have h0 : ¬ s.size = 0 := by omega
 simp only [isName, h0, decide_false, Bool.not_false, Bool.true_and, List.getElem?_eq_getElem h', Option.getD_some]
theorem f121 (s : ByteArray) : Impl Tryz.prog 121 [.one (.str s)] (.one (.one (.bool (isName s)))) := by
 refine impl_z Tryz.func121 z121 Tryz.ntmps121 (by simp) ?_
 simp only [c121, slotsOf]
 have he := str_empty s
 by_cases h0 : s.size = 0
 ·have h0' : isName s = false := isName_zero h0
  repeat' first | refine St.go ?_ | ((with_reducible refine zY (t := ?_) ?hc (fun h => ?_) (fun h => ?_)); (case hc => rfl); all_goals (try simp [go_sem, he, h0] at h); all_goals try omega) | (refine Ru.go ?_; intro K hK; simp [go_sem, he, h0]; (try simp (disch := omega) only [zh, zi, eq_self, true_and]); (first | apply hK | refine ⟨by first | omega | (simp [zf, zg, he, h0]; first | done | omega), ?_⟩ | refine ⟨hK _ ?_, fun h => ?_⟩ | refine ⟨?_, ?_⟩); all_goals ((try apply hK); clear hK K))
  simp [go_sem, h0']
 ·have hpos : 0 < s.size := by omega
  obtain ⟨b0, hb0, hn0⟩ := strL_get hpos
  have hn := isName_pos hpos
  rw [← hn0] at hn
  by_cases h16 : s.size ≤ 16
  ·have h16' : ¬ (16 : Int) < (s.size : Int) := by omega
   cases hl : isLetter (b0.toNat : Int) with
   | false =>
     repeat' first | refine St.go ?_ | ((with_reducible refine zY (t := ?_) ?hc (fun h => ?_) (fun h => ?_)); (case hc => rfl); all_goals (try simp [go_sem, he, h0, h16', hb0, hl] at h); all_goals try omega) | (refine Ru.go ?_; intro K hK; simp [go_sem, he, h0, h16', hb0, hl]; (try simp (disch := omega) only [zh, zi, eq_self, true_and]); (first | apply hK | ((try refine .inl ?_); refine ⟨_, by (try intro hc); (repeat' first | exact f131 _ | exact hc | refine And.intro ?_ ?_ | simp [go_sem, he, h0, h16', hb0, hl]); first | done | omega, ?_⟩; first | apply hK | (refine ⟨by simp [go_sem, he, h0, h16', hb0, hl], ?_⟩; first | apply hK | refine ⟨by simp [go_sem, he, h0, h16', hb0, hl], hK _ _ ?_⟩)) | refine ⟨.one (.one (.bool false)), by simp [go_sem, he, h0, h16', hb0, hl], hK _ _ ?_⟩ | refine ⟨by first | omega | (simp [zf, zg, he, h0, h16', hb0, hl]; first | done | omega), ?_⟩ | refine ⟨hK _ ?_, fun h => ?_⟩ | refine ⟨?_, ?_⟩); all_goals ((try apply hK); clear hK K))
     simp [go_sem, hn, hl]
   | true =>
     repeat' first | refine St.go ?_ | ((with_reducible refine zY (t := ?_) ?hc (fun h => ?_) (fun h => ?_)); (case hc => rfl); all_goals (try simp [go_sem, he, h0, h16', hb0, hl] at h); all_goals try omega) | (refine Ru.go ?_; intro K hK; simp [go_sem, he, h0, h16', hb0, hl]; (try simp (disch := omega) only [zh, zi, eq_self, true_and]); (first | apply hK | ((try refine .inl ?_); refine ⟨_, by (try intro hc); (repeat' first | exact f131 _ | exact hc | refine And.intro ?_ ?_ | simp [go_sem, he, h0, h16', hb0, hl]); first | done | omega, ?_⟩; first | apply hK | (refine ⟨by simp [go_sem, he, h0, h16', hb0, hl], ?_⟩; first | apply hK | refine ⟨by simp [go_sem, he, h0, h16', hb0, hl], hK _ _ ?_⟩)) | refine ⟨.one (.one (.bool false)), by simp [go_sem, he, h0, h16', hb0, hl], hK _ _ ?_⟩ | refine ⟨by first | omega | (simp [zf, zg, he, h0, h16', hb0, hl]; first | done | omega), ?_⟩ | refine ⟨hK _ ?_, fun h => ?_⟩ | refine ⟨?_, ?_⟩); all_goals ((try apply hK); clear hK K))
     refine zk (fun n e => ∃ k : Nat, k + n = s.size ∧ ((strL s).take k).all isInner = true ∧ e = [(19, .sv (.one (.int .i64 k))), (18, .sv (.one (.int .i64 s.size))), (0, .sv (.one (.str s)))]) s.size _ ⟨0, by simp, by simp, rfl⟩ (by simp [go_sem]) ?_
     rintro n e ⟨k, hk, hall, rfl⟩
     by_cases hlt : k < s.size
     ·have hbn := strL_at hlt
      have hlt' : k < (strL s).length := by rw [strL_len]; exact hlt
      cases hi : isInner ((s[k]).toNat : Int) with
      | false =>
        repeat' first | refine St.go ?_ | ((with_reducible refine zY (t := ?_) ?hc (fun h => ?_) (fun h => ?_)); (case hc => rfl); all_goals (try simp [go_sem, hlt, hi] at h); all_goals try omega) | (refine Ru.go ?_; intro K hK; simp [go_sem, hlt, hi]; (try simp (disch := omega) only [zh, zi, eq_self, true_and]); (first | apply hK | ((try refine .inl ?_); refine ⟨_, by (try intro hc); (repeat' first | exact f132 _ | exact hc | refine And.intro ?_ ?_ | simp [go_sem, hlt, hi]); first | done | omega, ?_⟩; first | apply hK | (refine ⟨by simp [go_sem, hlt, hi], ?_⟩; first | apply hK | refine ⟨by simp [go_sem, hlt, hi], hK _ _ ?_⟩)) | refine ⟨.one (.one (.bool false)), by simp [go_sem, hlt, hi], hK _ _ ?_⟩ | refine ⟨by first | omega | (simp [zf, zg, hlt, hi]; first | done | omega), ?_⟩ | refine ⟨hK _ ?_, fun h => ?_⟩ | refine ⟨?_, ?_⟩); all_goals ((try apply hK); clear hK K))
        have := all_no hlt' (by rw [← hbn]; exact hi)
        simp [go_sem, hn, this]
      | true =>
        repeat' first | refine St.go ?_ | ((with_reducible refine zY (t := ?_) ?hc (fun h => ?_) (fun h => ?_)); (case hc => rfl); all_goals (try simp [go_sem, hlt, hi] at h); all_goals try omega) | (refine Ru.go ?_; intro K hK; simp [go_sem, hlt, hi]; (try simp (disch := omega) only [zh, zi, eq_self, true_and]); (first | apply hK | ((try refine .inl ?_); refine ⟨_, by (try intro hc); (repeat' first | exact f132 _ | exact hc | refine And.intro ?_ ?_ | simp [go_sem, hlt, hi]); first | done | omega, ?_⟩; first | apply hK | (refine ⟨by simp [go_sem, hlt, hi], ?_⟩; first | apply hK | refine ⟨by simp [go_sem, hlt, hi], hK _ _ ?_⟩)) | refine ⟨.one (.one (.bool false)), by simp [go_sem, hlt, hi], hK _ _ ?_⟩ | refine ⟨by first | omega | (simp [zf, zg, hlt, hi]; first | done | omega), ?_⟩ | refine ⟨hK _ ?_, fun h => ?_⟩ | refine ⟨?_, ?_⟩); all_goals ((try apply hK); clear hK K))
        refine zj (n - 1) _ (by omega) ⟨k + 1, by omega, ?_, rfl⟩ ?_
        ·rw [all_succ hlt', hall, ← hbn, hi]; rfl
        ·simp [go_sem]
     ·have htk : (strL s).take k = strL s := List.take_of_length_le (by rw [strL_len]; omega)
      rw [htk] at hall
      repeat' first | refine St.go ?_ | ((with_reducible refine zY (t := ?_) ?hc (fun h => ?_) (fun h => ?_)); (case hc => rfl); all_goals (try simp [go_sem, hlt] at h); all_goals try omega) | (refine Ru.go ?_; intro K hK; simp [go_sem, hlt]; (try simp (disch := omega) only [zh, zi, eq_self, true_and]); (first | apply hK | refine ⟨by first | omega | (simp [zf, zg, hlt]; first | done | omega), ?_⟩ | refine ⟨hK _ ?_, fun h => ?_⟩ | refine ⟨?_, ?_⟩); all_goals ((try apply hK); clear hK K))
      simp [go_sem, hn, hl, h16, hall]
  ·have h16' : (16 : Int) < (s.size : Int) := by omega
   repeat' first | refine St.go ?_ | ((with_reducible refine zY (t := ?_) ?hc (fun h => ?_) (fun h => ?_)); (case hc => rfl); all_goals (try simp [go_sem, he, h0, h16', hb0] at h); all_goals try omega) | (refine Ru.go ?_; intro K hK; simp [go_sem, he, h0, h16', hb0]; (try simp (disch := omega) only [zh, zi, eq_self, true_and]); (first | apply hK | refine ⟨by first | omega | (simp [zf, zg, he, h0, h16', hb0]; first | done | omega), ?_⟩ | refine ⟨hK _ ?_, fun h => ?_⟩ | refine ⟨?_, ?_⟩); all_goals ((try apply hK); clear hK K))
   simp [go_sem, hn, h16]
end Go.Av
namespace Go.Av
open Go Go.RowKit Go.Proofs
set_option maxRecDepth 8000
theorem any_succ {α : Type} {p : α → Bool} {l : List α} {k : Nat} (h : k < l.length) : (l.take (k + 1)).any p = ((l.take k).any p || p l[k]) := by
 rw [List.take_succ_eq_append_getElem h, List.any_append]
 simp
def firstB {α : Type} (p : α → Bool) (l : List α) : Int := match l.findIdx? p with
 | some i => (i : Int)
 | none => -1
theorem firstB_at {α : Type} {p : α → Bool} {l : List α} {k : Nat} (hk : k < l.length) (h0 : (l.take k).any p = false) (h1 : p l[k] = true) : firstB p l = k := by
 have : l.findIdx? p = some k := by
  rw [List.findIdx?_eq_some_iff_getElem]
  refine ⟨hk, h1, fun j hj => ?_⟩
  rw [List.any_eq_false] at h0
  have := h0 (l[j]'(by omega)) (List.mem_iff_getElem.2 ⟨j, by rw [List.length_take]; omega, by simp⟩)
  simpa using this
 simp [firstB, this]
theorem firstB_none {α : Type} {p : α → Bool} {l : List α} (h : l.any p = false) : firstB p l = -1 := by
 have : l.findIdx? p = none := by
  rw [List.findIdx?_eq_none_iff]
  intro x hx
  rw [List.any_eq_false] at h
  simpa using h x hx
 simp [firstB, this]
theorem firstB_any {α : Type} (p : α → Bool) (l : List α) : decide (0 ≤ firstB p l) = l.any p := by
 cases h : l.any p with
 | false => rw [firstB_none h]; rfl
 | true =>
   unfold firstB
   cases h2 : l.findIdx? p with
   | none =>
     rw [List.findIdx?_eq_none_iff] at h2
     rw [List.any_eq_true] at h
     obtain ⟨x, hx, hp⟩ := h
     rw [h2 x hx] at hp
     cases hp
   | some i => simp
theorem any_bytes (l : List ByteArray) (x : ByteArray) : l.any (fun y => x == y) = hasS l x := by
 unfold hasS
 congr 1
 funext y
 rw [bytes_eq, bytes_eq]
 by_cases h : x = y
 ·subst h; rfl
 ·rw [decide_eq_false h, decide_eq_false (fun e => h e.symm)]
theorem f122 (l : List ByteArray) (x : ByteArray) (hl : l.length ≤ 1000000) : Impl Tryz.prog 122 [.one (.sl (l.map encS)), .one (.str x)] (.one (.one (.int .i64 (firstB (fun y => x == y) l)))) := by
 refine impl_z Tryz.func122 z122 Tryz.ntmps122 (by simp) ?_
 simp only [c122, slotsOf]
 repeat' first | refine St.go ?_ | ((with_reducible refine zY (t := ?_) ?hc (fun h => ?_) (fun h => ?_)); (case hc => rfl); all_goals (try simp [go_sem] at h); all_goals try omega) | (refine Ru.go ?_; intro K hK; simp [go_sem]; (try simp (disch := omega) only [zh, zi, eq_self, true_and]); (first | apply hK | refine ⟨by first | omega | (simp [zf, zg]; first | done | omega), ?_⟩ | refine ⟨hK _ ?_, fun h => ?_⟩ | refine ⟨?_, ?_⟩); all_goals ((try apply hK); clear hK K))
 refine zk (fun n e => ∃ k : Nat, k + n = l.length ∧ (l.take k).any (fun y => x == y) = false ∧ e = [(8, .sv (.one (.int .i64 k))), (7, .sv (.one (.int .i64 l.length))), (1, .sv (.one (.str x))), (0, .sv (.one (.sl (l.map encS))))]) l.length _ ⟨0, by simp, by simp, rfl⟩ (by simp [go_sem]) ?_
 rintro n e ⟨k, hk, h0, rfl⟩
 by_cases hlt : k < l.length
 ·cases hx : (x == l[k]) with
  | true =>
    have hf := firstB_at (p := fun y => x == y) hlt h0 hx
    repeat' first | refine St.go ?_ | ((with_reducible refine zY (t := ?_) ?hc (fun h => ?_) (fun h => ?_)); (case hc => rfl); all_goals (try simp [go_sem, hlt, encS, hx] at h); all_goals try omega) | (refine Ru.go ?_; intro K hK; simp [go_sem, hlt, encS, hx]; (try simp (disch := omega) only [zh, zi, eq_self, true_and]); (first | apply hK | refine ⟨by first | omega | (simp [zf, zg, hlt, encS, hx]; first | done | omega), ?_⟩ | refine ⟨hK _ ?_, fun h => ?_⟩ | refine ⟨?_, ?_⟩); all_goals ((try apply hK); clear hK K))
    simp [go_sem, hf]
  | false =>
    repeat' first | refine St.go ?_ | ((with_reducible refine zY (t := ?_) ?hc (fun h => ?_) (fun h => ?_)); (case hc => rfl); all_goals (try simp [go_sem, hlt, encS, hx] at h); all_goals try omega) | (refine Ru.go ?_; intro K hK; simp [go_sem, hlt, encS, hx]; (try simp (disch := omega) only [zh, zi, eq_self, true_and]); (first | apply hK | refine ⟨by first | omega | (simp [zf, zg, hlt, encS, hx]; first | done | omega), ?_⟩ | refine ⟨hK _ ?_, fun h => ?_⟩ | refine ⟨?_, ?_⟩); all_goals ((try apply hK); clear hK K))
    refine zj (n - 1) _ (by omega) ⟨k + 1, by omega, ?_, rfl⟩ ?_
    ·rw [any_succ hlt, h0, hx]; rfl
    ·simp [go_sem]
 ·have hkl : l.take k = l := List.take_of_length_le (by omega)
  rw [hkl] at h0
  have hf := firstB_none h0
  repeat' first | refine St.go ?_ | ((with_reducible refine zY (t := ?_) ?hc (fun h => ?_) (fun h => ?_)); (case hc => rfl); all_goals (try simp [go_sem, hlt] at h); all_goals try omega) | (refine Ru.go ?_; intro K hK; simp [go_sem, hlt]; (try simp (disch := omega) only [zh, zi, eq_self, true_and]); (first | apply hK | refine ⟨by first | omega | (simp [zf, zg, hlt]; first | done | omega), ?_⟩ | refine ⟨hK _ ?_, fun h => ?_⟩ | refine ⟨?_, ?_⟩); all_goals ((try apply hK); clear hK K))
  simp [go_sem, hf]
theorem f106 (l : List ByteArray) (x : ByteArray) (hl : l.length ≤ 1000000) : Impl Tryz.prog 106 [.one (.sl (l.map encS)), .one (.str x)] (.one (.one (.bool (hasS l x)))) := by
 refine impl_z Tryz.func106 z106 Tryz.ntmps106 (by simp) ?_
 simp only [c106, slotsOf]
 have hf := firstB_any (fun y => x == y) l
 rw [any_bytes] at hf
 repeat' first | refine St.go ?_ | (refine Ru.go ?_; intro K hK; simp [go_sem]; (first | apply hK | ((try refine .inl ?_); refine ⟨_, by (try intro hc); (repeat' first | exact f122 l x hl | exact hc | refine And.intro ?_ ?_ | simp [go_sem]); first | done | omega, ?_⟩; first | apply hK | (refine ⟨by simp [go_sem], ?_⟩; first | apply hK | refine ⟨by simp [go_sem], hK _ _ ?_⟩)) | refine ⟨by first | omega | (simp [zf, zg]; first | done | omega), ?_⟩ | refine ⟨hK _ ?_, fun h => ?_⟩ | refine ⟨?_, ?_⟩); all_goals ((try apply hK); clear hK K))
 simp [go_sem, hf]
theorem kws_len : kws.length ≤ 1000000 := by decide
theorem f105 (s : ByteArray) : Impl Tryz.prog 105 [.one (.str s)] (.one (.one (.bool (isWord s)))) := by
 refine impl_z Tryz.func105 z105 Tryz.ntmps105 (by simp) ?_
 simp only [c105, slotsOf]
 have f106s := f106 kws s kws_len
 simp only [kws, List.map_cons, List.map_nil, encS] at f106s
 have hw : isWord s = (isName s && !hasS kws s) := rfl
 simp only [kws] at hw
 cases hn : isName s with
 | true =>
   repeat' first | refine St.go ?_ | (refine Ru.go ?_; intro K hK; simp [go_sem, hn]; (first | apply hK | ((try refine .inl ?_); refine ⟨_, by (try intro hc); (repeat' first | exact f121 s | exact f106s | exact hc | refine And.intro ?_ ?_ | simp [go_sem, hn]); first | done | omega, ?_⟩; first | apply hK | (refine ⟨by simp [go_sem, hn], ?_⟩; first | apply hK | refine ⟨by simp [go_sem, hn], hK _ _ ?_⟩)) | refine ⟨by first | omega | (simp [zf, zg, hn]; first | done | omega), ?_⟩ | refine ⟨hK _ ?_, fun h => ?_⟩ | refine ⟨?_, ?_⟩); all_goals ((try apply hK); clear hK K))
   simp [go_sem, hw, hn]
 | false =>
   repeat' first | refine St.go ?_ | (refine Ru.go ?_; intro K hK; simp [go_sem, hn]; (first | apply hK | ((try refine .inl ?_); refine ⟨_, by (try intro hc); (repeat' first | exact f121 s | exact hc | refine And.intro ?_ ?_ | simp [go_sem, hn]); first | done | omega, ?_⟩; first | apply hK | (refine ⟨by simp [go_sem, hn], ?_⟩; first | apply hK | refine ⟨by simp [go_sem, hn], hK _ _ ?_⟩)) | refine ⟨by first | omega | (simp [zf, zg, hn]; first | done | omega), ?_⟩ | refine ⟨hK _ ?_, fun h => ?_⟩ | refine ⟨?_, ?_⟩); all_goals ((try apply hK); clear hK K))
   simp [go_sem, hw, hn]
end Go.Av
namespace Go.Av
open Go Go.RowKit Go.Proofs
set_option maxHeartbeats 1000000 in
set_option maxRecDepth 100000 in
theorem str_count (s : ByteArray) (c : UInt8) (w : World) :
  Calls Tryz.prog 154 #[.string s, .string ⟨#[c]⟩] w fun e w' => e = .returned (.int .i64 (Lib.countByte s.data.toList c)) ∧ w' = w := by
 go_enter Tryz.func154, Tryz.ntmps154
 go_wp2
 rw [run_callFunc_extern Tryz.func158 (by kernel_rfl) (by kernel_rfl) (by kernel_rfl) (e := Extern.BytealgCount.count) (by kernel_rfl), Lib.run_countString]
 simp only [Result.andThen]
 rw [Oper.upon_value]
 go_wp2
 go_ret
 exact ⟨rfl, rfl⟩
set_option maxHeartbeats 1000000 in
set_option maxRecDepth 100000 in
theorem str_indexByte (s : ByteArray) (c : Int) (w : World) :
  Calls Tryz.prog 161 #[.string s, .int .u8 c] w fun e w' => e = .returned (.int .i64 (Lib.indexByte s.data.toList c.toNat.toUInt8)) ∧ w' = w := by
 go_enter Tryz.func161, Tryz.ntmps161
 go_wp2
 rw [run_callFunc_extern Tryz.func165 (by kernel_rfl) (by kernel_rfl) (by kernel_rfl) (e := Extern.BytealgIndexByte.indexByte) (by kernel_rfl), Lib.run_indexByteString]
 simp only [Result.andThen]
 rw [Oper.upon_value]
 go_wp2
 go_ret
 exact ⟨rfl, rfl⟩
set_option maxHeartbeats 2000000 in
set_option maxRecDepth 100000 in
theorem str_index1 (s : ByteArray) (c : UInt8) (w : World) :
  Calls Tryz.prog 159 #[.string s, .string ⟨#[c]⟩] w fun e w' => e = .returned (.int .i64 (Lib.indexByte s.data.toList c)) ∧ w' = w := by
 go_enter Tryz.func159, Tryz.ntmps159
 go_wp2_with (go_at_call 161; refine (str_indexByte _ _ _).mono ?_; rintro e w' ⟨rfl, rfl⟩)
 ·have h : ([c] == s.toList) = true := by assumption
  go_ret
  refine ⟨?_, rfl⟩
  have e : s.data.toList = [c] := by rw [← Lib.toList_data]; exact (beq_iff_eq.1 h).symm
  rw [e]
  simp [Lib.indexByte]
 ·go_ret
  exact ⟨rfl, rfl⟩
set_option maxHeartbeats 1000000 in
theorem str_index (s : ByteArray) (c : UInt8) (w : World) :
  Calls Tryz.prog 155 #[.string s, .string ⟨#[c]⟩] w fun e w' => e = .returned (.int .i64 (Lib.indexByte s.data.toList c)) ∧ w' = w := by
 go_enter Tryz.func155, Tryz.ntmps155
 go_wp2_with (go_at_call 159; refine (str_index1 _ _ _).mono ?_; rintro e w' ⟨rfl, rfl⟩)
 go_ret
 exact ⟨rfl, rfl⟩
theorem Impl.ofStr2 {P : Program} {f : FuncId} {fn : Func} (hf : P.funcs[f]? = some fn) (hb : fn.body.isSome = true) (hn : fn.name ≠ "runtime.NumGoroutine") {s t : ByteArray} {k : IntKind} {n : Int}
  (h : ∀ w, Calls P f #[.string s, .string t] w fun e w' => e = .returned (.int k n) ∧ w' = w) : Impl P f [.one (.str s), .one (.str t)] (.one (.one (.int k n))) := by
 refine ⟨⟨fn, hf, hb, hn⟩, fun w S vs hS hv => ?_⟩
 have hvs : vs = [.string s, .string t] := by
  generalize hr : ([] : List Nat) = r at hv
  cases hv with
  | cons v x r vs xs rs h1 h2 =>
    cases h2 with
    | cons v' x' r' vs' xs' rs' h3 h4 =>
      cases h4
      cases CzS.one_inv h1
      cases CzS.one_inv h3
      rfl
 subst hvs
 refine (h w).mono ?_
 rintro e w' ⟨rfl, rfl⟩
 exact ⟨_, [], rfl, Below.refl _ _, by simp, by simp, .one _ _ _ (.one _ _ _ (.int _ _))⟩
end Go.Av
namespace Go.Av
open Go
def pieceL : List UInt8 → List (List UInt8)
 | [] => [[]]
 | b :: l => if b = 46 then [] :: pieceL l else match pieceL l with
   | [] => [[b]]
   | p :: ps => (b :: p) :: ps
theorem pieceL_ne : ∀ (l : List UInt8), pieceL l ≠ []
 | [] => by simp [pieceL]
 | b :: l => by
   unfold pieceL
   split
   ·simp
   ·split <;> simp
theorem pieceL_no : ∀ {l : List UInt8}, 46 ∉ l → pieceL l = [l]
 | [], _ => rfl
 | b :: l, h => by
   have h1 : b ≠ 46 := fun e => h (by simp [e])
   have h2 := pieceL_no (l := l) fun e => h (by simp [e])
   simp [pieceL, h1, h2]
theorem pieceL_at : ∀ {a l : List UInt8}, 46 ∉ a → pieceL (a ++ 46 :: l) = a :: pieceL l
 | [], l, _ => by simp [pieceL]
 | b :: a, l, h => by
   have h1 : b ≠ 46 := fun e => h (by simp [e])
   have h2 := pieceL_at (a := a) (l := l) fun e => h (by simp [e])
   simp [pieceL, h1, h2]
def toB (l : List UInt8) : ByteArray := ⟨l.toArray⟩
theorem toB_list (s : ByteArray) : toB s.data.toList = s := by simp [toB]
theorem list_toB (l : List UInt8) : (toB l).data.toList = l := by simp [toB]
theorem size_toB (l : List UInt8) : (toB l).size = l.length := by simp [toB, ByteArray.size]
theorem extract_toB (l : List UInt8) (a b : Nat) : (toB l).extract a b = toB ((l.take b).drop a) := by
 have h : ((toB l).extract a b).data.toList = ((l.take b).drop a) := by
  rw [ByteArray.data_extract, Array.toList_extract, list_toB, List.extract_eq_take_drop, List.drop_take]
 rw [← h, toB_list]
theorem index_at : ∀ {a l : List UInt8}, 46 ∉ a → Lib.indexByte (a ++ 46 :: l) 46 = a.length
 | [], l, _ => by simp [Lib.indexByte]
 | b :: a, l, h => by
   have h1 : ¬ b = 46 := fun e => h (by simp [e])
   have h2 := index_at (a := a) (l := l) fun e => h (by simp [e])
   have h3 : ¬ ((a.length : Int) = -1) := by omega
   simp [Lib.indexByte, h1, h2, h3]
theorem split_at : ∀ (l : List UInt8), 46 ∈ l → ∃ a b, l = a ++ 46 :: b ∧ 46 ∉ a
 | [], h => by cases h
 | x :: l, h => by
   by_cases e : x = 46
   ·subst e
    exact ⟨[], l, rfl, by simp⟩
   ·rcases List.mem_cons.1 h with h | h
    ·exact (e h.symm).elim
    ·obtain ⟨a, b, rfl, h2⟩ := split_at l h
     exact ⟨x :: a, b, rfl, by simp [h2, Ne.symm e]⟩
theorem pieceL_len : ∀ (l : List UInt8), (pieceL l).length = Lib.countByte l 46 + 1
 | [] => rfl
 | b :: l => by
   have ih := pieceL_len l
   unfold pieceL
   simp only [Lib.countByte, List.count_cons] at ih ⊢
   split
   ·rename_i e
    subst e
    simp [ih]
   ·rename_i e
    have hn := pieceL_ne l
    split
    ·contradiction
    ·rename_i p ps hp
     rw [hp] at ih
     simp [e] at ih ⊢
     omega
def pieceB (s : ByteArray) : List ByteArray := (pieceL s.data.toList).map toB
end Go.Av
