/- Part of a proof by symbolic walks on plain data. -/
import Derived.Test.YtpdfolkoejbbgaaGreatDoorAvR
import Derived.Test.YtpdfolkoejbbgaaGreatDoorProg
import Derived.Test.YtpdfolkoejbbgaaGreatDoorC0
import Derived.Test.YtpdfolkoejbbgaaGreatDoorF4
import Derived.Lib.Strings
import Derived.Lib.Slices
import Derived.Lib.Walk
import Derived.Lib.Bytealg
import Derived.Test.YtpdfolkoejbbgaaGreatDoorAvRX
import Derived.Test.YtpdfolkoejbbgaaGreatDoorRows
import Derived.ProofKit
set_option linter.unusedVariables false
set_option linter.unusedSimpArgs false
set_option maxHeartbeats 4000000
namespace Go.Av
open Go Go.Proofs
@[go_sem] theorem ty_kindT_3 : kindT Tryz.prog 3 = some false := by kernel_rfl
@[go_sem] theorem ty_sizeT_3 : sizeT Tryz.prog 3 = some 1 := by kernel_rfl
@[go_sem] theorem ty_bytesT_3 : bytesT Tryz.prog 3 = some 8 := by kernel_rfl
@[go_sem] theorem ty_elT_3 : elT Tryz.prog 3 = none := by kernel_rfl
@[go_sem] theorem ty_arrT_3 : arrT Tryz.prog 3 = none := by kernel_rfl
@[go_sem] theorem ty_intT_3 : intT Tryz.prog 3 = some IntKind.i64 := by kernel_rfl
@[go_sem] theorem ty_zeroT_3 : zeroT Tryz.prog 3 = some [DV.int IntKind.i64 0] := by kernel_rfl
@[go_sem] theorem ty_placesT_3 : placesT Tryz.prog 3 = none := by kernel_rfl
@[go_sem] theorem ty_cmpT_3 : cmpT Tryz.prog 20 3 = some [(0, 0)] := by kernel_rfl
@[go_sem] theorem ty_kindT_4 : kindT Tryz.prog 4 = some false := by kernel_rfl
@[go_sem] theorem ty_sizeT_4 : sizeT Tryz.prog 4 = some 1 := by kernel_rfl
@[go_sem] theorem ty_bytesT_4 : bytesT Tryz.prog 4 = some 1 := by kernel_rfl
@[go_sem] theorem ty_elT_4 : elT Tryz.prog 4 = none := by kernel_rfl
@[go_sem] theorem ty_arrT_4 : arrT Tryz.prog 4 = none := by kernel_rfl
@[go_sem] theorem ty_boolT_4 : boolT Tryz.prog 4 = true := by kernel_rfl
@[go_sem] theorem ty_zeroT_4 : zeroT Tryz.prog 4 = some [DV.bool false] := by kernel_rfl
@[go_sem] theorem ty_placesT_4 : placesT Tryz.prog 4 = none := by kernel_rfl
@[go_sem] theorem ty_cmpT_4 : cmpT Tryz.prog 20 4 = some [(0, 1)] := by kernel_rfl
@[go_sem] theorem ty_kindT_5 : kindT Tryz.prog 5 = some false := by kernel_rfl
@[go_sem] theorem ty_sizeT_5 : sizeT Tryz.prog 5 = some 1 := by kernel_rfl
@[go_sem] theorem ty_bytesT_5 : bytesT Tryz.prog 5 = some 1 := by kernel_rfl
@[go_sem] theorem ty_elT_5 : elT Tryz.prog 5 = none := by kernel_rfl
@[go_sem] theorem ty_arrT_5 : arrT Tryz.prog 5 = none := by kernel_rfl
@[go_sem] theorem ty_intT_5 : intT Tryz.prog 5 = some IntKind.u8 := by kernel_rfl
@[go_sem] theorem ty_zeroT_5 : zeroT Tryz.prog 5 = some [DV.int IntKind.u8 0] := by kernel_rfl
@[go_sem] theorem ty_placesT_5 : placesT Tryz.prog 5 = none := by kernel_rfl
@[go_sem] theorem ty_cmpT_5 : cmpT Tryz.prog 20 5 = some [(0, 0)] := by kernel_rfl
@[go_sem] theorem ty_kindT_9 : kindT Tryz.prog 9 = some false := by kernel_rfl
@[go_sem] theorem ty_sizeT_9 : sizeT Tryz.prog 9 = some 1 := by kernel_rfl
@[go_sem] theorem ty_bytesT_9 : bytesT Tryz.prog 9 = some 16 := by kernel_rfl
@[go_sem] theorem ty_elT_9 : elT Tryz.prog 9 = none := by kernel_rfl
@[go_sem] theorem ty_arrT_9 : arrT Tryz.prog 9 = none := by kernel_rfl
@[go_sem] theorem ty_strT_9 : strT Tryz.prog 9 = true := by kernel_rfl
@[go_sem] theorem ty_zeroT_9 : zeroT Tryz.prog 9 = some [DV.str { data := #[] }] := by kernel_rfl
@[go_sem] theorem ty_placesT_9 : placesT Tryz.prog 9 = none := by kernel_rfl
@[go_sem] theorem ty_cmpT_9 : cmpT Tryz.prog 20 9 = some [(0, 2)] := by kernel_rfl
@[go_sem] theorem ty_kindT_21 : kindT Tryz.prog 21 = some false := by kernel_rfl
@[go_sem] theorem ty_sizeT_21 : sizeT Tryz.prog 21 = some 1 := by kernel_rfl
@[go_sem] theorem ty_bytesT_21 : bytesT Tryz.prog 21 = some 4 := by kernel_rfl
@[go_sem] theorem ty_elT_21 : elT Tryz.prog 21 = none := by kernel_rfl
@[go_sem] theorem ty_arrT_21 : arrT Tryz.prog 21 = none := by kernel_rfl
@[go_sem] theorem ty_intT_21 : intT Tryz.prog 21 = some IntKind.i32 := by kernel_rfl
@[go_sem] theorem ty_zeroT_21 : zeroT Tryz.prog 21 = some [DV.int IntKind.i32 0] := by kernel_rfl
@[go_sem] theorem ty_placesT_21 : placesT Tryz.prog 21 = none := by kernel_rfl
@[go_sem] theorem ty_cmpT_21 : cmpT Tryz.prog 20 21 = some [(0, 0)] := by kernel_rfl
@[go_sem] theorem ty_kindT_22 : kindT Tryz.prog 22 = some false := by kernel_rfl
@[go_sem] theorem ty_sizeT_22 : sizeT Tryz.prog 22 = some 1 := by kernel_rfl
@[go_sem] theorem ty_bytesT_22 : bytesT Tryz.prog 22 = some 24 := by kernel_rfl
@[go_sem] theorem ty_elT_22 : elT Tryz.prog 22 = some 9 := by kernel_rfl
@[go_sem] theorem ty_arrT_22 : arrT Tryz.prog 22 = none := by kernel_rfl
@[go_sem] theorem ty_zeroT_22 : zeroT Tryz.prog 22 = some [DV.nil] := by kernel_rfl
@[go_sem] theorem ty_placesT_22 : placesT Tryz.prog 22 = none := by kernel_rfl
@[go_sem] theorem ty_kindT_23 : kindT Tryz.prog 23 = some false := by kernel_rfl
@[go_sem] theorem ty_sizeT_23 : sizeT Tryz.prog 23 = some 1 := by kernel_rfl
@[go_sem] theorem ty_bytesT_23 : bytesT Tryz.prog 23 = some 24 := by kernel_rfl
@[go_sem] theorem ty_elT_23 : elT Tryz.prog 23 = some 71 := by kernel_rfl
@[go_sem] theorem ty_arrT_23 : arrT Tryz.prog 23 = none := by kernel_rfl
@[go_sem] theorem ty_zeroT_23 : zeroT Tryz.prog 23 = some [DV.nil] := by kernel_rfl
@[go_sem] theorem ty_placesT_23 : placesT Tryz.prog 23 = none := by kernel_rfl
@[go_sem] theorem ty_kindT_24 : kindT Tryz.prog 24 = some false := by kernel_rfl
@[go_sem] theorem ty_sizeT_24 : sizeT Tryz.prog 24 = some 1 := by kernel_rfl
@[go_sem] theorem ty_bytesT_24 : bytesT Tryz.prog 24 = some 24 := by kernel_rfl
@[go_sem] theorem ty_elT_24 : elT Tryz.prog 24 = some 65 := by kernel_rfl
@[go_sem] theorem ty_arrT_24 : arrT Tryz.prog 24 = none := by kernel_rfl
@[go_sem] theorem ty_zeroT_24 : zeroT Tryz.prog 24 = some [DV.nil] := by kernel_rfl
@[go_sem] theorem ty_placesT_24 : placesT Tryz.prog 24 = none := by kernel_rfl
@[go_sem] theorem ty_kindT_25 : kindT Tryz.prog 25 = some false := by kernel_rfl
@[go_sem] theorem ty_sizeT_25 : sizeT Tryz.prog 25 = some 1 := by kernel_rfl
@[go_sem] theorem ty_bytesT_25 : bytesT Tryz.prog 25 = some 24 := by kernel_rfl
@[go_sem] theorem ty_elT_25 : elT Tryz.prog 25 = some 118 := by kernel_rfl
@[go_sem] theorem ty_arrT_25 : arrT Tryz.prog 25 = none := by kernel_rfl
@[go_sem] theorem ty_zeroT_25 : zeroT Tryz.prog 25 = some [DV.nil] := by kernel_rfl
@[go_sem] theorem ty_placesT_25 : placesT Tryz.prog 25 = none := by kernel_rfl
@[go_sem] theorem ty_kindT_27 : kindT Tryz.prog 27 = some true := by kernel_rfl
@[go_sem] theorem ty_sizeT_27 : sizeT Tryz.prog 27 = some 8 := by kernel_rfl
@[go_sem] theorem ty_bytesT_27 : bytesT Tryz.prog 27 = some 136 := by kernel_rfl
@[go_sem] theorem ty_elT_27 : elT Tryz.prog 27 = none := by kernel_rfl
@[go_sem] theorem ty_arrT_27 : arrT Tryz.prog 27 = none := by kernel_rfl
@[go_sem] theorem ty_zeroT_27 : zeroT Tryz.prog 27 = some [DV.str { data := #[] }, DV.nil, DV.nil, DV.int IntKind.i64 0, DV.int IntKind.i64 0, DV.int IntKind.i64 0, DV.nil, DV.nil] := by kernel_rfl
@[go_sem] theorem ty_placesT_27 : placesT Tryz.prog 27 = some [(0, 1), (1, 1), (2, 1), (3, 1), (4, 1), (5, 1), (6, 1), (7, 1)] := by kernel_rfl
@[go_sem] theorem ty_fldT0_27 : fldT Tryz.prog 27 0 = some (0, 9) := by kernel_rfl
@[go_sem] theorem ty_fldT1_27 : fldT Tryz.prog 27 1 = some (1, 22) := by kernel_rfl
@[go_sem] theorem ty_fldT2_27 : fldT Tryz.prog 27 2 = some (2, 23) := by kernel_rfl
@[go_sem] theorem ty_fldT3_27 : fldT Tryz.prog 27 3 = some (3, 3) := by kernel_rfl
@[go_sem] theorem ty_fldT4_27 : fldT Tryz.prog 27 4 = some (4, 3) := by kernel_rfl
@[go_sem] theorem ty_fldT5_27 : fldT Tryz.prog 27 5 = some (5, 3) := by kernel_rfl
@[go_sem] theorem ty_fldT6_27 : fldT Tryz.prog 27 6 = some (6, 24) := by kernel_rfl
@[go_sem] theorem ty_fldT7_27 : fldT Tryz.prog 27 7 = some (7, 25) := by kernel_rfl
@[go_sem] theorem ty_kindT_28 : kindT Tryz.prog 28 = some false := by kernel_rfl
@[go_sem] theorem ty_sizeT_28 : sizeT Tryz.prog 28 = some 1 := by kernel_rfl
@[go_sem] theorem ty_bytesT_28 : bytesT Tryz.prog 28 = some 24 := by kernel_rfl
@[go_sem] theorem ty_elT_28 : elT Tryz.prog 28 = some 52 := by kernel_rfl
@[go_sem] theorem ty_arrT_28 : arrT Tryz.prog 28 = none := by kernel_rfl
@[go_sem] theorem ty_zeroT_28 : zeroT Tryz.prog 28 = some [DV.nil] := by kernel_rfl
@[go_sem] theorem ty_placesT_28 : placesT Tryz.prog 28 = none := by kernel_rfl
@[go_sem] theorem ty_kindT_34 : kindT Tryz.prog 34 = some false := by kernel_rfl
@[go_sem] theorem ty_sizeT_34 : sizeT Tryz.prog 34 = some 1 := by kernel_rfl
@[go_sem] theorem ty_bytesT_34 : bytesT Tryz.prog 34 = some 24 := by kernel_rfl
@[go_sem] theorem ty_elT_34 : elT Tryz.prog 34 = some 88 := by kernel_rfl
@[go_sem] theorem ty_arrT_34 : arrT Tryz.prog 34 = none := by kernel_rfl
@[go_sem] theorem ty_zeroT_34 : zeroT Tryz.prog 34 = some [DV.nil] := by kernel_rfl
@[go_sem] theorem ty_placesT_34 : placesT Tryz.prog 34 = none := by kernel_rfl
@[go_sem] theorem ty_kindT_37 : kindT Tryz.prog 37 = some false := by kernel_rfl
@[go_sem] theorem ty_sizeT_37 : sizeT Tryz.prog 37 = some 1 := by kernel_rfl
@[go_sem] theorem ty_bytesT_37 : bytesT Tryz.prog 37 = some 24 := by kernel_rfl
@[go_sem] theorem ty_elT_37 : elT Tryz.prog 37 = some 3 := by kernel_rfl
@[go_sem] theorem ty_arrT_37 : arrT Tryz.prog 37 = none := by kernel_rfl
@[go_sem] theorem ty_zeroT_37 : zeroT Tryz.prog 37 = some [DV.nil] := by kernel_rfl
@[go_sem] theorem ty_placesT_37 : placesT Tryz.prog 37 = none := by kernel_rfl
@[go_sem] theorem ty_kindT_38 : kindT Tryz.prog 38 = some false := by kernel_rfl
@[go_sem] theorem ty_sizeT_38 : sizeT Tryz.prog 38 = some 1 := by kernel_rfl
@[go_sem] theorem ty_bytesT_38 : bytesT Tryz.prog 38 = some 24 := by kernel_rfl
@[go_sem] theorem ty_elT_38 : elT Tryz.prog 38 = some 61 := by kernel_rfl
@[go_sem] theorem ty_arrT_38 : arrT Tryz.prog 38 = none := by kernel_rfl
@[go_sem] theorem ty_zeroT_38 : zeroT Tryz.prog 38 = some [DV.nil] := by kernel_rfl
@[go_sem] theorem ty_placesT_38 : placesT Tryz.prog 38 = none := by kernel_rfl
@[go_sem] theorem ty_kindT_39 : kindT Tryz.prog 39 = some false := by kernel_rfl
@[go_sem] theorem ty_sizeT_39 : sizeT Tryz.prog 39 = some 1 := by kernel_rfl
@[go_sem] theorem ty_bytesT_39 : bytesT Tryz.prog 39 = some 24 := by kernel_rfl
@[go_sem] theorem ty_elT_39 : elT Tryz.prog 39 = some 4 := by kernel_rfl
@[go_sem] theorem ty_arrT_39 : arrT Tryz.prog 39 = none := by kernel_rfl
@[go_sem] theorem ty_zeroT_39 : zeroT Tryz.prog 39 = some [DV.nil] := by kernel_rfl
@[go_sem] theorem ty_placesT_39 : placesT Tryz.prog 39 = none := by kernel_rfl
@[go_sem] theorem ty_kindT_42 : kindT Tryz.prog 42 = some false := by kernel_rfl
@[go_sem] theorem ty_sizeT_42 : sizeT Tryz.prog 42 = some 1 := by kernel_rfl
@[go_sem] theorem ty_bytesT_42 : bytesT Tryz.prog 42 = some 8 := by kernel_rfl
@[go_sem] theorem ty_elT_42 : elT Tryz.prog 42 = none := by kernel_rfl
@[go_sem] theorem ty_arrT_42 : arrT Tryz.prog 42 = none := by kernel_rfl
@[go_sem] theorem ty_intT_42 : intT Tryz.prog 42 = some IntKind.i64 := by kernel_rfl
@[go_sem] theorem ty_zeroT_42 : zeroT Tryz.prog 42 = some [DV.int IntKind.i64 0] := by kernel_rfl
@[go_sem] theorem ty_placesT_42 : placesT Tryz.prog 42 = none := by kernel_rfl
@[go_sem] theorem ty_cmpT_42 : cmpT Tryz.prog 20 42 = some [(0, 0)] := by kernel_rfl
@[go_sem] theorem ty_kindT_52 : kindT Tryz.prog 52 = some true := by kernel_rfl
@[go_sem] theorem ty_sizeT_52 : sizeT Tryz.prog 52 = some 3 := by kernel_rfl
@[go_sem] theorem ty_bytesT_52 : bytesT Tryz.prog 52 = some 24 := by kernel_rfl
@[go_sem] theorem ty_elT_52 : elT Tryz.prog 52 = none := by kernel_rfl
@[go_sem] theorem ty_arrT_52 : arrT Tryz.prog 52 = none := by kernel_rfl
@[go_sem] theorem ty_zeroT_52 : zeroT Tryz.prog 52 = some [DV.int IntKind.i64 0, DV.int IntKind.i64 0, DV.int IntKind.i64 0] := by kernel_rfl
@[go_sem] theorem ty_placesT_52 : placesT Tryz.prog 52 = some [(0, 1), (1, 1), (2, 1)] := by kernel_rfl
@[go_sem] theorem ty_cmpT_52 : cmpT Tryz.prog 20 52 = some [(0, 0), (1, 0), (2, 0)] := by kernel_rfl
@[go_sem] theorem ty_fldT0_52 : fldT Tryz.prog 52 0 = some (0, 3) := by kernel_rfl
@[go_sem] theorem ty_fldT1_52 : fldT Tryz.prog 52 1 = some (1, 3) := by kernel_rfl
@[go_sem] theorem ty_fldT2_52 : fldT Tryz.prog 52 2 = some (2, 3) := by kernel_rfl
@[go_sem] theorem ty_kindT_61 : kindT Tryz.prog 61 = some true := by kernel_rfl
@[go_sem] theorem ty_sizeT_61 : sizeT Tryz.prog 61 = some 2 := by kernel_rfl
@[go_sem] theorem ty_bytesT_61 : bytesT Tryz.prog 61 = some 16 := by kernel_rfl
@[go_sem] theorem ty_elT_61 : elT Tryz.prog 61 = none := by kernel_rfl
@[go_sem] theorem ty_arrT_61 : arrT Tryz.prog 61 = some (2, 3) := by kernel_rfl
@[go_sem] theorem ty_zeroT_61 : zeroT Tryz.prog 61 = some [DV.int IntKind.i64 0, DV.int IntKind.i64 0] := by kernel_rfl
@[go_sem] theorem ty_placesT_61 : placesT Tryz.prog 61 = none := by kernel_rfl
@[go_sem] theorem ty_kindT_65 : kindT Tryz.prog 65 = some true := by kernel_rfl
@[go_sem] theorem ty_sizeT_65 : sizeT Tryz.prog 65 = some 6 := by kernel_rfl
@[go_sem] theorem ty_bytesT_65 : bytesT Tryz.prog 65 = some 48 := by kernel_rfl
@[go_sem] theorem ty_elT_65 : elT Tryz.prog 65 = none := by kernel_rfl
@[go_sem] theorem ty_arrT_65 : arrT Tryz.prog 65 = none := by kernel_rfl
@[go_sem] theorem ty_zeroT_65 : zeroT Tryz.prog 65 = some [DV.int IntKind.i64 0, DV.int IntKind.i64 0, DV.int IntKind.i64 0, DV.int IntKind.i64 0, DV.int IntKind.i64 0, DV.bool false] := by kernel_rfl
@[go_sem] theorem ty_placesT_65 : placesT Tryz.prog 65 = some [(0, 1), (1, 3), (4, 1), (5, 1)] := by kernel_rfl
@[go_sem] theorem ty_cmpT_65 : cmpT Tryz.prog 20 65 = some [(0, 0), (1, 0), (2, 0), (3, 0), (4, 0), (5, 1)] := by kernel_rfl
@[go_sem] theorem ty_fldT0_65 : fldT Tryz.prog 65 0 = some (0, 3) := by kernel_rfl
@[go_sem] theorem ty_fldT1_65 : fldT Tryz.prog 65 1 = some (1, 52) := by kernel_rfl
@[go_sem] theorem ty_fldT2_65 : fldT Tryz.prog 65 2 = some (4, 3) := by kernel_rfl
@[go_sem] theorem ty_fldT3_65 : fldT Tryz.prog 65 3 = some (5, 4) := by kernel_rfl
@[go_sem] theorem ty_kindT_66 : kindT Tryz.prog 66 = some false := by kernel_rfl
@[go_sem] theorem ty_sizeT_66 : sizeT Tryz.prog 66 = some 1 := by kernel_rfl
@[go_sem] theorem ty_bytesT_66 : bytesT Tryz.prog 66 = some 24 := by kernel_rfl
@[go_sem] theorem ty_elT_66 : elT Tryz.prog 66 = some 123 := by kernel_rfl
@[go_sem] theorem ty_arrT_66 : arrT Tryz.prog 66 = none := by kernel_rfl
@[go_sem] theorem ty_zeroT_66 : zeroT Tryz.prog 66 = some [DV.nil] := by kernel_rfl
@[go_sem] theorem ty_placesT_66 : placesT Tryz.prog 66 = none := by kernel_rfl
@[go_sem] theorem ty_kindT_67 : kindT Tryz.prog 67 = some false := by kernel_rfl
@[go_sem] theorem ty_sizeT_67 : sizeT Tryz.prog 67 = some 1 := by kernel_rfl
@[go_sem] theorem ty_bytesT_67 : bytesT Tryz.prog 67 = some 24 := by kernel_rfl
@[go_sem] theorem ty_elT_67 : elT Tryz.prog 67 = some 126 := by kernel_rfl
@[go_sem] theorem ty_arrT_67 : arrT Tryz.prog 67 = none := by kernel_rfl
@[go_sem] theorem ty_zeroT_67 : zeroT Tryz.prog 67 = some [DV.nil] := by kernel_rfl
@[go_sem] theorem ty_placesT_67 : placesT Tryz.prog 67 = none := by kernel_rfl
@[go_sem] theorem ty_kindT_69 : kindT Tryz.prog 69 = some true := by kernel_rfl
@[go_sem] theorem ty_sizeT_69 : sizeT Tryz.prog 69 = some 2 := by kernel_rfl
@[go_sem] theorem ty_bytesT_69 : bytesT Tryz.prog 69 = some 48 := by kernel_rfl
@[go_sem] theorem ty_elT_69 : elT Tryz.prog 69 = none := by kernel_rfl
@[go_sem] theorem ty_arrT_69 : arrT Tryz.prog 69 = none := by kernel_rfl
@[go_sem] theorem ty_zeroT_69 : zeroT Tryz.prog 69 = some [DV.nil, DV.nil] := by kernel_rfl
@[go_sem] theorem ty_placesT_69 : placesT Tryz.prog 69 = some [(0, 1), (1, 1)] := by kernel_rfl
@[go_sem] theorem ty_fldT0_69 : fldT Tryz.prog 69 0 = some (0, 67) := by kernel_rfl
@[go_sem] theorem ty_fldT1_69 : fldT Tryz.prog 69 1 = some (1, 38) := by kernel_rfl
@[go_sem] theorem ty_kindT_71 : kindT Tryz.prog 71 = some true := by kernel_rfl
@[go_sem] theorem ty_sizeT_71 : sizeT Tryz.prog 71 = some 5 := by kernel_rfl
@[go_sem] theorem ty_bytesT_71 : bytesT Tryz.prog 71 = some 96 := by kernel_rfl
@[go_sem] theorem ty_elT_71 : elT Tryz.prog 71 = none := by kernel_rfl
@[go_sem] theorem ty_arrT_71 : arrT Tryz.prog 71 = none := by kernel_rfl
@[go_sem] theorem ty_zeroT_71 : zeroT Tryz.prog 71 = some [DV.str { data := #[] }, DV.nil, DV.int IntKind.i64 0, DV.nil, DV.nil] := by kernel_rfl
@[go_sem] theorem ty_placesT_71 : placesT Tryz.prog 71 = some [(0, 1), (1, 1), (2, 1), (3, 2)] := by kernel_rfl
@[go_sem] theorem ty_fldT0_71 : fldT Tryz.prog 71 0 = some (0, 9) := by kernel_rfl
@[go_sem] theorem ty_fldT1_71 : fldT Tryz.prog 71 1 = some (1, 66) := by kernel_rfl
@[go_sem] theorem ty_fldT2_71 : fldT Tryz.prog 71 2 = some (2, 3) := by kernel_rfl
@[go_sem] theorem ty_fldT3_71 : fldT Tryz.prog 71 3 = some (3, 69) := by kernel_rfl
@[go_sem] theorem ty_kindT_73 : kindT Tryz.prog 73 = some false := by kernel_rfl
@[go_sem] theorem ty_sizeT_73 : sizeT Tryz.prog 73 = some 1 := by kernel_rfl
@[go_sem] theorem ty_bytesT_73 : bytesT Tryz.prog 73 = some 24 := by kernel_rfl
@[go_sem] theorem ty_elT_73 : elT Tryz.prog 73 = some 28 := by kernel_rfl
@[go_sem] theorem ty_arrT_73 : arrT Tryz.prog 73 = none := by kernel_rfl
@[go_sem] theorem ty_zeroT_73 : zeroT Tryz.prog 73 = some [DV.nil] := by kernel_rfl
@[go_sem] theorem ty_placesT_73 : placesT Tryz.prog 73 = none := by kernel_rfl
@[go_sem] theorem ty_kindT_81 : kindT Tryz.prog 81 = some false := by kernel_rfl
@[go_sem] theorem ty_sizeT_81 : sizeT Tryz.prog 81 = some 1 := by kernel_rfl
@[go_sem] theorem ty_bytesT_81 : bytesT Tryz.prog 81 = some 24 := by kernel_rfl
@[go_sem] theorem ty_elT_81 : elT Tryz.prog 81 = some 34 := by kernel_rfl
@[go_sem] theorem ty_arrT_81 : arrT Tryz.prog 81 = none := by kernel_rfl
@[go_sem] theorem ty_zeroT_81 : zeroT Tryz.prog 81 = some [DV.nil] := by kernel_rfl
@[go_sem] theorem ty_placesT_81 : placesT Tryz.prog 81 = none := by kernel_rfl
@[go_sem] theorem ty_kindT_88 : kindT Tryz.prog 88 = some true := by kernel_rfl
@[go_sem] theorem ty_sizeT_88 : sizeT Tryz.prog 88 = some 5 := by kernel_rfl
@[go_sem] theorem ty_bytesT_88 : bytesT Tryz.prog 88 = some 56 := by kernel_rfl
@[go_sem] theorem ty_elT_88 : elT Tryz.prog 88 = none := by kernel_rfl
@[go_sem] theorem ty_arrT_88 : arrT Tryz.prog 88 = none := by kernel_rfl
@[go_sem] theorem ty_zeroT_88 : zeroT Tryz.prog 88 = some [DV.int IntKind.i64 0, DV.bool false, DV.int IntKind.i64 0, DV.int IntKind.i64 0, DV.nil] := by kernel_rfl
@[go_sem] theorem ty_placesT_88 : placesT Tryz.prog 88 = some [(0, 1), (1, 1), (2, 1), (3, 1), (4, 1)] := by kernel_rfl
@[go_sem] theorem ty_fldT0_88 : fldT Tryz.prog 88 0 = some (0, 3) := by kernel_rfl
@[go_sem] theorem ty_fldT1_88 : fldT Tryz.prog 88 1 = some (1, 4) := by kernel_rfl
@[go_sem] theorem ty_fldT2_88 : fldT Tryz.prog 88 2 = some (2, 3) := by kernel_rfl
@[go_sem] theorem ty_fldT3_88 : fldT Tryz.prog 88 3 = some (3, 3) := by kernel_rfl
@[go_sem] theorem ty_fldT4_88 : fldT Tryz.prog 88 4 = some (4, 86) := by kernel_rfl
@[go_sem] theorem ty_kindT_118 : kindT Tryz.prog 118 = some true := by kernel_rfl
@[go_sem] theorem ty_sizeT_118 : sizeT Tryz.prog 118 = some 3 := by kernel_rfl
@[go_sem] theorem ty_bytesT_118 : bytesT Tryz.prog 118 = some 24 := by kernel_rfl
@[go_sem] theorem ty_elT_118 : elT Tryz.prog 118 = none := by kernel_rfl
@[go_sem] theorem ty_arrT_118 : arrT Tryz.prog 118 = none := by kernel_rfl
@[go_sem] theorem ty_zeroT_118 : zeroT Tryz.prog 118 = some [DV.int IntKind.i64 0, DV.int IntKind.i64 0, DV.int IntKind.i64 0] := by kernel_rfl
@[go_sem] theorem ty_placesT_118 : placesT Tryz.prog 118 = some [(0, 1), (1, 1), (2, 1)] := by kernel_rfl
@[go_sem] theorem ty_cmpT_118 : cmpT Tryz.prog 20 118 = some [(0, 0), (1, 0), (2, 0)] := by kernel_rfl
@[go_sem] theorem ty_fldT0_118 : fldT Tryz.prog 118 0 = some (0, 3) := by kernel_rfl
@[go_sem] theorem ty_fldT1_118 : fldT Tryz.prog 118 1 = some (1, 3) := by kernel_rfl
@[go_sem] theorem ty_fldT2_118 : fldT Tryz.prog 118 2 = some (2, 3) := by kernel_rfl
@[go_sem] theorem ty_kindT_121 : kindT Tryz.prog 121 = some true := by kernel_rfl
@[go_sem] theorem ty_sizeT_121 : sizeT Tryz.prog 121 = some 3 := by kernel_rfl
@[go_sem] theorem ty_bytesT_121 : bytesT Tryz.prog 121 = some 24 := by kernel_rfl
@[go_sem] theorem ty_elT_121 : elT Tryz.prog 121 = none := by kernel_rfl
@[go_sem] theorem ty_arrT_121 : arrT Tryz.prog 121 = none := by kernel_rfl
@[go_sem] theorem ty_zeroT_121 : zeroT Tryz.prog 121 = some [DV.int IntKind.i64 0, DV.int IntKind.i64 0, DV.int IntKind.i64 0] := by kernel_rfl
@[go_sem] theorem ty_placesT_121 : placesT Tryz.prog 121 = some [(0, 1), (1, 1), (2, 1)] := by kernel_rfl
@[go_sem] theorem ty_cmpT_121 : cmpT Tryz.prog 20 121 = some [(0, 0), (1, 0), (2, 0)] := by kernel_rfl
@[go_sem] theorem ty_fldT0_121 : fldT Tryz.prog 121 0 = some (0, 3) := by kernel_rfl
@[go_sem] theorem ty_fldT1_121 : fldT Tryz.prog 121 1 = some (1, 3) := by kernel_rfl
@[go_sem] theorem ty_fldT2_121 : fldT Tryz.prog 121 2 = some (2, 3) := by kernel_rfl
@[go_sem] theorem ty_kindT_123 : kindT Tryz.prog 123 = some true := by kernel_rfl
@[go_sem] theorem ty_sizeT_123 : sizeT Tryz.prog 123 = some 4 := by kernel_rfl
@[go_sem] theorem ty_bytesT_123 : bytesT Tryz.prog 123 = some 40 := by kernel_rfl
@[go_sem] theorem ty_elT_123 : elT Tryz.prog 123 = none := by kernel_rfl
@[go_sem] theorem ty_arrT_123 : arrT Tryz.prog 123 = none := by kernel_rfl
@[go_sem] theorem ty_zeroT_123 : zeroT Tryz.prog 123 = some [DV.str { data := #[] }, DV.int IntKind.i64 0, DV.int IntKind.i64 0, DV.int IntKind.i64 0] := by kernel_rfl
@[go_sem] theorem ty_placesT_123 : placesT Tryz.prog 123 = some [(0, 1), (1, 3)] := by kernel_rfl
@[go_sem] theorem ty_cmpT_123 : cmpT Tryz.prog 20 123 = some [(0, 2), (1, 0), (2, 0), (3, 0)] := by kernel_rfl
@[go_sem] theorem ty_fldT0_123 : fldT Tryz.prog 123 0 = some (0, 9) := by kernel_rfl
@[go_sem] theorem ty_fldT1_123 : fldT Tryz.prog 123 1 = some (1, 121) := by kernel_rfl
@[go_sem] theorem ty_kindT_126 : kindT Tryz.prog 126 = some true := by kernel_rfl
@[go_sem] theorem ty_sizeT_126 : sizeT Tryz.prog 126 = some 3 := by kernel_rfl
@[go_sem] theorem ty_bytesT_126 : bytesT Tryz.prog 126 = some 24 := by kernel_rfl
@[go_sem] theorem ty_elT_126 : elT Tryz.prog 126 = none := by kernel_rfl
@[go_sem] theorem ty_arrT_126 : arrT Tryz.prog 126 = none := by kernel_rfl
@[go_sem] theorem ty_zeroT_126 : zeroT Tryz.prog 126 = some [DV.int IntKind.i64 0, DV.int IntKind.i64 0, DV.int IntKind.i64 0] := by kernel_rfl
@[go_sem] theorem ty_placesT_126 : placesT Tryz.prog 126 = some [(0, 1), (1, 1), (2, 1)] := by kernel_rfl
@[go_sem] theorem ty_cmpT_126 : cmpT Tryz.prog 20 126 = some [(0, 0), (1, 0), (2, 0)] := by kernel_rfl
@[go_sem] theorem ty_fldT0_126 : fldT Tryz.prog 126 0 = some (0, 3) := by kernel_rfl
@[go_sem] theorem ty_fldT1_126 : fldT Tryz.prog 126 1 = some (1, 3) := by kernel_rfl
@[go_sem] theorem ty_fldT2_126 : fldT Tryz.prog 126 2 = some (2, 3) := by kernel_rfl
@[go_sem] theorem ty_kindT_152 : kindT Tryz.prog 152 = some true := by kernel_rfl
@[go_sem] theorem ty_sizeT_152 : sizeT Tryz.prog 152 = some 3 := by kernel_rfl
@[go_sem] theorem ty_bytesT_152 : bytesT Tryz.prog 152 = some 24 := by kernel_rfl
@[go_sem] theorem ty_elT_152 : elT Tryz.prog 152 = none := by kernel_rfl
@[go_sem] theorem ty_arrT_152 : arrT Tryz.prog 152 = some (3, 3) := by kernel_rfl
@[go_sem] theorem ty_zeroT_152 : zeroT Tryz.prog 152 = some [DV.int IntKind.i64 0, DV.int IntKind.i64 0, DV.int IntKind.i64 0] := by kernel_rfl
@[go_sem] theorem ty_placesT_152 : placesT Tryz.prog 152 = none := by kernel_rfl
@[go_sem] theorem ty_kindT_162 : kindT Tryz.prog 162 = some true := by kernel_rfl
@[go_sem] theorem ty_sizeT_162 : sizeT Tryz.prog 162 = some 28 := by kernel_rfl
@[go_sem] theorem ty_bytesT_162 : bytesT Tryz.prog 162 = some 448 := by kernel_rfl
@[go_sem] theorem ty_elT_162 : elT Tryz.prog 162 = none := by kernel_rfl
@[go_sem] theorem ty_arrT_162 : arrT Tryz.prog 162 = some (28, 9) := by kernel_rfl
@[go_sem] theorem ty_zeroT_162 : zeroT Tryz.prog 162 = some [DV.str { data := #[] }, DV.str { data := #[] }, DV.str { data := #[] }, DV.str { data := #[] }, DV.str { data := #[] }, DV.str { data := #[] }, DV.str { data := #[] }, DV.str { data := #[] }, DV.str { data := #[] }, DV.str { data := #[] }, DV.str { data := #[] }, DV.str { data := #[] }, DV.str { data := #[] }, DV.str { data := #[] }, DV.str { data := #[] }, DV.str { data := #[] }, DV.str { data := #[] }, DV.str { data := #[] }, DV.str { data := #[] }, DV.str { data := #[] }, DV.str { data := #[] }, DV.str { data := #[] }, DV.str { data := #[] }, DV.str { data := #[] }, DV.str { data := #[] }, DV.str { data := #[] }, DV.str { data := #[] }, DV.str { data := #[] }] := by kernel_rfl
@[go_sem] theorem ty_placesT_162 : placesT Tryz.prog 162 = none := by kernel_rfl
@[go_sem] theorem ty_kindT_164 : kindT Tryz.prog 164 = some false := by kernel_rfl
@[go_sem] theorem ty_sizeT_164 : sizeT Tryz.prog 164 = some 1 := by kernel_rfl
@[go_sem] theorem ty_bytesT_164 : bytesT Tryz.prog 164 = some 8 := by kernel_rfl
@[go_sem] theorem ty_elT_164 : elT Tryz.prog 164 = none := by kernel_rfl
@[go_sem] theorem ty_arrT_164 : arrT Tryz.prog 164 = none := by kernel_rfl
@[go_sem] theorem ty_intT_164 : intT Tryz.prog 164 = some IntKind.u64 := by kernel_rfl
@[go_sem] theorem ty_zeroT_164 : zeroT Tryz.prog 164 = some [DV.int IntKind.u64 0] := by kernel_rfl
@[go_sem] theorem ty_placesT_164 : placesT Tryz.prog 164 = none := by kernel_rfl
@[go_sem] theorem ty_cmpT_164 : cmpT Tryz.prog 20 164 = some [(0, 0)] := by kernel_rfl
@[go_sem] theorem ty_kindT_174 : kindT Tryz.prog 174 = some false := by kernel_rfl
@[go_sem] theorem ty_sizeT_174 : sizeT Tryz.prog 174 = some 1 := by kernel_rfl
@[go_sem] theorem ty_bytesT_174 : bytesT Tryz.prog 174 = some 4 := by kernel_rfl
@[go_sem] theorem ty_elT_174 : elT Tryz.prog 174 = none := by kernel_rfl
@[go_sem] theorem ty_arrT_174 : arrT Tryz.prog 174 = none := by kernel_rfl
@[go_sem] theorem ty_intT_174 : intT Tryz.prog 174 = some IntKind.u32 := by kernel_rfl
@[go_sem] theorem ty_zeroT_174 : zeroT Tryz.prog 174 = some [DV.int IntKind.u32 0] := by kernel_rfl
@[go_sem] theorem ty_placesT_174 : placesT Tryz.prog 174 = none := by kernel_rfl
@[go_sem] theorem ty_cmpT_174 : cmpT Tryz.prog 20 174 = some [(0, 0)] := by kernel_rfl
@[go_sem] theorem ty_kindT_177 : kindT Tryz.prog 177 = some false := by kernel_rfl
@[go_sem] theorem ty_sizeT_177 : sizeT Tryz.prog 177 = some 1 := by kernel_rfl
@[go_sem] theorem ty_bytesT_177 : bytesT Tryz.prog 177 = some 8 := by kernel_rfl
@[go_sem] theorem ty_elT_177 : elT Tryz.prog 177 = none := by kernel_rfl
@[go_sem] theorem ty_arrT_177 : arrT Tryz.prog 177 = none := by kernel_rfl
@[go_sem] theorem ty_intT_177 : intT Tryz.prog 177 = some IntKind.u64 := by kernel_rfl
@[go_sem] theorem ty_zeroT_177 : zeroT Tryz.prog 177 = some [DV.int IntKind.u64 0] := by kernel_rfl
@[go_sem] theorem ty_placesT_177 : placesT Tryz.prog 177 = none := by kernel_rfl
@[go_sem] theorem ty_cmpT_177 : cmpT Tryz.prog 20 177 = some [(0, 0)] := by kernel_rfl
end Go.Av
namespace Go.Av
open Go Go.RowKit Go.Proofs
set_option maxRecDepth 8000
structure Inter where
  from_ : Int
  to : Int
  label : Int
  deriving DecidableEq
def encI (x : Inter) : List DV := [.int .i64 x.from_, .int .i64 x.to, .int .i64 x.label]
structure Ev where
  role : Int
  send : Bool
  peer : Int
  label : Int
  vals : Option (List (List DV))
def valsDV : Option (List (List DV)) → DV
  | none => .nil
  | some els => .sl els
@[go_sem ↓ high] theorem flat_vals (o : Option (List (List DV))) : (valsDV o).flat = true := by cases o <;> rfl
@[go_sem ↓ high] theorem frz_vals (o : Option (List (List DV))) : (valsDV o).frz = valsDV o := by cases o <;> rfl
def encE (x : Ev) : List DV := [.int .i64 x.role, .bool x.send, .int .i64 x.peer, .int .i64 x.label, valsDV x.vals]
def encH (x : List Ev) : List DV := [.sl (x.map encE)]
def encN (x : Int) : List DV := [.int .i64 x]
@[go_sem ↓ high] theorem frz_encI (x : Inter) : frzL (encI x) = encI x := by simp [encI, frzL, DV.frz]
@[go_sem ↓ high] theorem frz_encE (x : Ev) : frzL (encE x) = encE x := by simp [encE, frzL, DV.frz, frz_vals]
@[go_sem ↓ high] theorem frz_encN (x : Int) : frzL (encN x) = encN x := by simp [encN, frzL, DV.frz]
@[go_sem ↓ high] theorem frz_encH (x : List Ev) : frzL (encH x) = encH x := by simp [encH, frzL, DV.frz]
theorem all_succ {α : Type} {p : α → Bool} {l : List α} {k : Nat} (h : k < l.length) : (l.take (k + 1)).all p = ((l.take k).all p && p l[k]) := by
  rw [List.take_succ_eq_append_getElem h, List.all_append]
  simp
theorem all_no {α : Type} {p : α → Bool} {l : List α} {k : Nat} (h : k < l.length) (hb : p l[k] = false) : l.all p = false := by
  rw [List.all_eq_false]
  exact ⟨_, List.getElem_mem h, by simp [hb]⟩
@[go_sem] theorem frzLL_append : ∀ (l m : List (List DV)), frzLL (l ++ m) = frzLL l ++ frzLL m
  | [], m => rfl
  | x :: l, m => by simp [frzLL, frzLL_append l m]
@[go_sem] theorem clo_encI (l : List Inter) : clo (l.map encI) ↔ True := by
  simp only [iff_true]
  intro e he d hd
  obtain ⟨x, _, rfl⟩ := List.mem_map.1 he
  simp only [encI, List.mem_cons, List.not_mem_nil, or_false] at hd
  rcases hd with rfl | rfl | rfl <;> exact .int _ _
@[go_sem] theorem clo_encN (l : List Int) : clo (l.map encN) ↔ True := by
  simp only [iff_true]
  intro e he d hd
  obtain ⟨x, _, rfl⟩ := List.mem_map.1 he
  simp only [encN, List.mem_cons, List.not_mem_nil, or_false] at hd
  subst hd
  exact .int _ _
theorem clo_encE {l : List Ev} (h : ∀ x ∈ l, x.vals = none) : clo (l.map encE) := by
  intro e he d hd
  obtain ⟨x, hx, rfl⟩ := List.mem_map.1 he
  simp only [encE, List.mem_cons, List.not_mem_nil, or_false, h x hx, valsDV] at hd
  rcases hd with rfl | rfl | rfl | rfl | rfl <;> first | exact .int _ _ | exact .bool _ | exact .nil
theorem mem_encI {x : Inter} {d : DV} (h : d ∈ encI x) : d.flat = true := by
  simp only [encI, List.mem_cons, List.not_mem_nil, or_false] at h
  rcases h with rfl | rfl | rfl <;> rfl
theorem okI_of {els news : List (List DV)} (h1 : ∀ e ∈ news, ∃ x, e = encI x) (h2 : els.length + news.length ≤ 1000000000) : appendOk 3 24 els news := by
  refine ⟨fun e he => ?_, fun e he => ?_, by omega, by unfold maxLen; omega, by omega⟩
  · obtain ⟨x, rfl⟩ := h1 e he
    rw [List.all_eq_true]
    exact fun d hd => mem_encI hd
  · obtain ⟨x, rfl⟩ := h1 e he
    rfl
end Go.Av
namespace Go.Av
open Go Go.RowKit Go.Proofs
set_option maxRecDepth 8000
theorem bytes_eq (a b : ByteArray) : (a == b) = decide (a = b) := by
  obtain ⟨a⟩ := a
  obtain ⟨b⟩ := b
  show ByteArray.beq ⟨a⟩ ⟨b⟩ = _
  unfold ByteArray.beq
  simp
  rw [Bool.eq_iff_iff]
  simp
def isDigit (c : Int) : Bool := decide (48 ≤ c) && decide (c ≤ 57)
def isLetter (c : Int) : Bool := (decide (97 ≤ c) && decide (c ≤ 122)) || (decide (65 ≤ c) && decide (c ≤ 90))
def isInner (c : Int) : Bool := isLetter c || isDigit c || decide (c = 95)
theorem f146 (c : Int) : Impl Tryz.prog 146 [.one (.int .u8 c)] (.one (.one (.bool (isDigit c)))) := by
  refine impl_intro Tryz.func146 z146.b z146.e z146.r z146.n Tryz.ntmps146 z146.d (by simp) fun hs => ?_
  simp only [c146, slotsOf]
  repeat' first | (with_reducible first | refine zA ?_ | refine zB ?_ | refine zD ?_ | refine zF ?_ | refine zK ?_ | refine zL ?_ | refine zT ?_ | refine zX ?_) | ((with_reducible refine zY (t := ?_) ?hc (fun h => ?_) (fun h => ?_)); (case hc => rfl); all_goals (try simp [go_sem] at h); all_goals try omega) | ((with_reducible first | refine zZ ?_ | refine zd ?_ | refine ze ?_); intro K hK; simp [go_sem]; (try simp (disch := omega) only [wrap_i64, okRefs, eq_self, true_and]); (first | apply hK | refine ⟨by first | omega | (simp [appendOk, flatEls]; first | done | omega), ?_⟩ | refine ⟨hK _ ?_, fun h => ?_⟩ | refine ⟨?_, ?_⟩); all_goals ((try apply hK); clear hK K))
  simp [go_sem, isDigit]
theorem f143 (c : Int) : Impl Tryz.prog 143 [.one (.int .u8 c)] (.one (.one (.bool (isDigit c)))) := by
  refine impl_intro Tryz.func143 z143.b z143.e z143.r z143.n Tryz.ntmps143 z143.d (by simp) fun hs => ?_
  simp only [c143, slotsOf]
  repeat' first | (with_reducible first | refine zA ?_ | refine zB ?_ | refine zD ?_ | refine zF ?_ | refine zK ?_ | refine zL ?_ | refine zT ?_ | refine zX ?_) | ((with_reducible refine zY (t := ?_) ?hc (fun h => ?_) (fun h => ?_)); (case hc => rfl); all_goals (try simp [go_sem] at h); all_goals try omega) | ((with_reducible first | refine zZ ?_ | refine zd ?_ | refine ze ?_); intro K hK; simp [go_sem]; (try simp (disch := omega) only [wrap_i64, okRefs, eq_self, true_and]); (first | apply hK | refine ⟨by first | omega | (simp [appendOk, flatEls]; first | done | omega), ?_⟩ | refine ⟨hK _ ?_, fun h => ?_⟩ | refine ⟨?_, ?_⟩); all_goals ((try apply hK); clear hK K))
  simp [go_sem, isDigit]
theorem f131 (c : Int) : Impl Tryz.prog 131 [.one (.int .u8 c)] (.one (.one (.bool (isLetter c)))) := by
  refine impl_intro Tryz.func131 z131.b z131.e z131.r z131.n Tryz.ntmps131 z131.d (by simp) fun hs => ?_
  simp only [c131, slotsOf]
  repeat' first | (with_reducible first | refine zA ?_ | refine zB ?_ | refine zD ?_ | refine zF ?_ | refine zK ?_ | refine zL ?_ | refine zT ?_ | refine zX ?_) | ((with_reducible refine zY (t := ?_) ?hc (fun h => ?_) (fun h => ?_)); (case hc => rfl); all_goals (try simp [go_sem] at h); all_goals try omega) | ((with_reducible first | refine zZ ?_ | refine zd ?_ | refine ze ?_); intro K hK; simp [go_sem]; (try simp (disch := omega) only [wrap_i64, okRefs, eq_self, true_and]); (first | apply hK | refine ⟨by first | omega | (simp [appendOk, flatEls]; first | done | omega), ?_⟩ | refine ⟨hK _ ?_, fun h => ?_⟩ | refine ⟨?_, ?_⟩); all_goals ((try apply hK); clear hK K))
  simp [go_sem, isLetter]
theorem f126 (c : Int) : Impl Tryz.prog 126 [.one (.int .u8 c)] (.one (.one (.bool (isLetter c)))) := by
  refine impl_intro Tryz.func126 z126.b z126.e z126.r z126.n Tryz.ntmps126 z126.d (by simp) fun hs => ?_
  simp only [c126, slotsOf]
  repeat' first | (with_reducible first | refine zA ?_ | refine zB ?_ | refine zD ?_ | refine zF ?_ | refine zK ?_ | refine zL ?_ | refine zT ?_ | refine zX ?_) | ((with_reducible refine zY (t := ?_) ?hc (fun h => ?_) (fun h => ?_)); (case hc => rfl); all_goals (try simp [go_sem] at h); all_goals try omega) | ((with_reducible first | refine zZ ?_ | refine zd ?_ | refine ze ?_); intro K hK; simp [go_sem]; (try simp (disch := omega) only [wrap_i64, okRefs, eq_self, true_and]); (first | apply hK | refine ⟨by first | omega | (simp [appendOk, flatEls]; first | done | omega), ?_⟩ | refine ⟨hK _ ?_, fun h => ?_⟩ | refine ⟨?_, ?_⟩); all_goals ((try apply hK); clear hK K))
  simp [go_sem, isLetter]
theorem f132 (c : Int) : Impl Tryz.prog 132 [.one (.int .u8 c)] (.one (.one (.bool (isInner c)))) := by
  refine impl_intro Tryz.func132 z132.b z132.e z132.r z132.n Tryz.ntmps132 z132.d (by simp) fun hs => ?_
  simp only [c132, slotsOf]
  cases hl : isLetter c with
  | true =>
    repeat' first | (with_reducible first | refine zA ?_ | refine zB ?_ | refine zD ?_ | refine zF ?_ | refine zK ?_ | refine zL ?_ | refine zT ?_ | refine zX ?_) | ((with_reducible refine zY (t := ?_) ?hc (fun h => ?_) (fun h => ?_)); (case hc => rfl); all_goals (try simp [go_sem, hl] at h); all_goals try omega) | ((with_reducible first | refine zZ ?_ | refine zd ?_ | refine ze ?_); intro K hK; simp [go_sem, hl]; (try simp (disch := omega) only [wrap_i64, okRefs, eq_self, true_and]); (first | apply hK | ((first | ((try refine .inl ?_); refine ⟨_, by (try intro hc); (repeat' first | exact f131 c | exact hc | with_reducible refine And.intro ?_ ?_ | simp [go_sem, hl]); first | done | omega, ?_⟩) | refine .inr ⟨_, by (try intro hc); (repeat' first | exact f131 c | exact hc | with_reducible refine And.intro ?_ ?_ | simp [go_sem, hl]); first | done | omega, ?_⟩); (first | refine hK _ ?_ | refine hK _ _ ?_ | (refine ⟨by simp [go_sem, hl], ?_⟩; first | refine hK _ ?_ | refine hK _ _ ?_ | refine ⟨by simp [go_sem, hl], hK _ _ ?_⟩))) | refine ⟨.one (.one (.bool false)), by simp [go_sem, hl], hK _ _ ?_⟩ | refine ⟨by first | omega | (simp [appendOk, flatEls, hl]; first | done | omega), ?_⟩ | refine ⟨hK _ ?_, fun h => ?_⟩ | refine ⟨?_, ?_⟩); all_goals ((try apply hK); clear hK K))
    simp [go_sem, isInner, hl]
  | false =>
    repeat' first | (with_reducible first | refine zA ?_ | refine zB ?_ | refine zD ?_ | refine zF ?_ | refine zK ?_ | refine zL ?_ | refine zT ?_ | refine zX ?_) | ((with_reducible refine zY (t := ?_) ?hc (fun h => ?_) (fun h => ?_)); (case hc => rfl); all_goals (try simp [go_sem, hl] at h); all_goals try omega) | ((with_reducible first | refine zZ ?_ | refine zd ?_ | refine ze ?_); intro K hK; simp [go_sem, hl]; (try simp (disch := omega) only [wrap_i64, okRefs, eq_self, true_and]); (first | apply hK | ((first | ((try refine .inl ?_); refine ⟨_, by (try intro hc); (repeat' first | exact f131 c | exact f146 c | exact hc | with_reducible refine And.intro ?_ ?_ | simp [go_sem, hl]); first | done | omega, ?_⟩) | refine .inr ⟨_, by (try intro hc); (repeat' first | exact f131 c | exact f146 c | exact hc | with_reducible refine And.intro ?_ ?_ | simp [go_sem, hl]); first | done | omega, ?_⟩); (first | refine hK _ ?_ | refine hK _ _ ?_ | (refine ⟨by simp [go_sem, hl], ?_⟩; first | refine hK _ ?_ | refine hK _ _ ?_ | refine ⟨by simp [go_sem, hl], hK _ _ ?_⟩))) | refine ⟨.one (.one (.bool false)), by simp [go_sem, hl], hK _ _ ?_⟩ | refine ⟨by first | omega | (simp [appendOk, flatEls, hl]; first | done | omega), ?_⟩ | refine ⟨hK _ ?_, fun h => ?_⟩ | refine ⟨?_, ?_⟩); all_goals ((try apply hK); clear hK K))
    simp [go_sem, isInner, hl]
    rfl
theorem f127 (c : Int) : Impl Tryz.prog 127 [.one (.int .u8 c)] (.one (.one (.bool (isInner c)))) := by
  refine impl_intro Tryz.func127 z127.b z127.e z127.r z127.n Tryz.ntmps127 z127.d (by simp) fun hs => ?_
  simp only [c127, slotsOf]
  cases hl : isLetter c with
  | true =>
    repeat' first | (with_reducible first | refine zA ?_ | refine zB ?_ | refine zD ?_ | refine zF ?_ | refine zK ?_ | refine zL ?_ | refine zT ?_ | refine zX ?_) | ((with_reducible refine zY (t := ?_) ?hc (fun h => ?_) (fun h => ?_)); (case hc => rfl); all_goals (try simp [go_sem, hl] at h); all_goals try omega) | ((with_reducible first | refine zZ ?_ | refine zd ?_ | refine ze ?_); intro K hK; simp [go_sem, hl]; (try simp (disch := omega) only [wrap_i64, okRefs, eq_self, true_and]); (first | apply hK | ((first | ((try refine .inl ?_); refine ⟨_, by (try intro hc); (repeat' first | exact f126 c | exact hc | with_reducible refine And.intro ?_ ?_ | simp [go_sem, hl]); first | done | omega, ?_⟩) | refine .inr ⟨_, by (try intro hc); (repeat' first | exact f126 c | exact hc | with_reducible refine And.intro ?_ ?_ | simp [go_sem, hl]); first | done | omega, ?_⟩); (first | refine hK _ ?_ | refine hK _ _ ?_ | (refine ⟨by simp [go_sem, hl], ?_⟩; first | refine hK _ ?_ | refine hK _ _ ?_ | refine ⟨by simp [go_sem, hl], hK _ _ ?_⟩))) | refine ⟨.one (.one (.bool false)), by simp [go_sem, hl], hK _ _ ?_⟩ | refine ⟨by first | omega | (simp [appendOk, flatEls, hl]; first | done | omega), ?_⟩ | refine ⟨hK _ ?_, fun h => ?_⟩ | refine ⟨?_, ?_⟩); all_goals ((try apply hK); clear hK K))
    simp [go_sem, isInner, hl]
  | false =>
    repeat' first | (with_reducible first | refine zA ?_ | refine zB ?_ | refine zD ?_ | refine zF ?_ | refine zK ?_ | refine zL ?_ | refine zT ?_ | refine zX ?_) | ((with_reducible refine zY (t := ?_) ?hc (fun h => ?_) (fun h => ?_)); (case hc => rfl); all_goals (try simp [go_sem, hl] at h); all_goals try omega) | ((with_reducible first | refine zZ ?_ | refine zd ?_ | refine ze ?_); intro K hK; simp [go_sem, hl]; (try simp (disch := omega) only [wrap_i64, okRefs, eq_self, true_and]); (first | apply hK | ((first | ((try refine .inl ?_); refine ⟨_, by (try intro hc); (repeat' first | exact f126 c | exact f143 c | exact hc | with_reducible refine And.intro ?_ ?_ | simp [go_sem, hl]); first | done | omega, ?_⟩) | refine .inr ⟨_, by (try intro hc); (repeat' first | exact f126 c | exact f143 c | exact hc | with_reducible refine And.intro ?_ ?_ | simp [go_sem, hl]); first | done | omega, ?_⟩); (first | refine hK _ ?_ | refine hK _ _ ?_ | (refine ⟨by simp [go_sem, hl], ?_⟩; first | refine hK _ ?_ | refine hK _ _ ?_ | refine ⟨by simp [go_sem, hl], hK _ _ ?_⟩))) | refine ⟨.one (.one (.bool false)), by simp [go_sem, hl], hK _ _ ?_⟩ | refine ⟨by first | omega | (simp [appendOk, flatEls, hl]; first | done | omega), ?_⟩ | refine ⟨hK _ ?_, fun h => ?_⟩ | refine ⟨?_, ?_⟩); all_goals ((try apply hK); clear hK K))
    simp [go_sem, isInner, hl]
    rfl
end Go.Av
namespace Go.Av
open Go Go.RowKit Go.Proofs
set_option maxRecDepth 8000
def encS (x : ByteArray) : List DV := [.str x]
def strL (s : ByteArray) : List Int := s.data.toList.map fun b => (b.toNat : Int)
theorem strL_len (s : ByteArray) : (strL s).length = s.size := by simp [strL]
theorem strL_get {s : ByteArray} {k : Nat} (h : k < s.size) : ∃ b : UInt8, s[k]? = some b ∧ (b.toNat : Int) = (strL s)[k]'(by rw [strL_len]; exact h) := by
  refine ⟨s[k], by simp [h], ?_⟩
  simp [strL, ByteArray.getElem_eq_getElem_data]
theorem strL_at {s : ByteArray} {k : Nat} (h : k < s.size) : ((s[k]).toNat : Int) = (strL s)[k]'(by rw [strL_len]; exact h) := by
  simp [strL, ByteArray.getElem_eq_getElem_data]
theorem str_empty (s : ByteArray) : (s == ⟨#[]⟩) = decide (s.size = 0) := by
  rw [bytes_eq]
  by_cases h : s = ⟨#[]⟩
  · subst h; rfl
  · simp only [h, decide_false]
    symm
    rw [decide_eq_false_iff_not]
    intro h0
    apply h
    obtain ⟨d⟩ := s
    congr 1
    exact Array.eq_empty_of_size_eq_zero h0
def kws : List ByteArray := [⟨#[97, 103, 97, 105, 110]⟩, ⟨#[97, 110, 100]⟩, ⟨#[97, 115]⟩, ⟨#[97, 116]⟩, ⟨#[99, 97, 108, 108]⟩, ⟨#[99, 104, 111, 105, 99, 101]⟩, ⟨#[101, 108, 115, 101]⟩, ⟨#[102, 114, 111, 109]⟩, ⟨#[105, 102]⟩, ⟨#[105, 110, 116]⟩, ⟨#[108, 101, 110]⟩, ⟨#[108, 111, 111, 112]⟩, ⟨#[109, 101, 115, 115, 97, 103, 101]⟩, ⟨#[111, 102]⟩, ⟨#[111, 102, 102, 101, 114]⟩, ⟨#[111, 110]⟩, ⟨#[111, 114]⟩, ⟨#[112, 97, 114]⟩, ⟨#[112, 108, 97, 121, 115]⟩, ⟨#[112, 114, 111, 116, 111, 99, 111, 108]⟩, ⟨#[115, 101, 114, 118, 105, 99, 101]⟩, ⟨#[116, 101, 120, 116]⟩, ⟨#[116, 105, 109, 101, 115]⟩, ⟨#[116, 111]⟩, ⟨#[118, 97, 114]⟩, ⟨#[119, 104, 101, 114, 101]⟩, ⟨#[119, 104, 105, 108, 101]⟩, ⟨#[119, 105, 116, 104, 105, 110]⟩]
def isName (s : ByteArray) : Bool := !decide (s.size = 0) && decide (s.size ≤ 16) && isLetter ((strL s)[0]?.getD 0) && (strL s).all isInner
def hasS (l : List ByteArray) (s : ByteArray) : Bool := l.any (· == s)
def isWord (s : ByteArray) : Bool := isName s && !hasS kws s
theorem isName_zero {s : ByteArray} (h : s.size = 0) : isName s = false := by
  simp [isName, h]
theorem isName_pos {s : ByteArray} (h : 0 < s.size) : isName s = (decide (s.size ≤ 16) && isLetter ((strL s)[0]'(by rw [strL_len]; exact h)) && (strL s).all isInner) := by
  have h' : 0 < (strL s).length := by rw [strL_len]; exact h
  have h0 : ¬ s.size = 0 := by omega
  simp only [isName, h0, decide_false, Bool.not_false, Bool.true_and, List.getElem?_eq_getElem h', Option.getD_some]
theorem f121 (s : ByteArray) : Impl Tryz.prog 121 [.one (.str s)] (.one (.one (.bool (isName s)))) := by
  refine impl_z Tryz.func121 z121 Tryz.ntmps121 (by simp) ?_
  simp only [c121, slotsOf]
  have he := str_empty s
  by_cases h0 : s.size = 0
  · have h0' : isName s = false := isName_zero h0
    repeat' first | (with_reducible first | refine zA ?_ | refine zB ?_ | refine zC ?_ | refine zD ?_ | refine zE ?_ | refine zF ?_ | refine zK ?_ | refine zL ?_ | refine zM ?_ | refine zN ?_ | refine zO ?_ | refine zP ?_ | refine zQ (by decide) ?_ | refine zR ?_ | refine zS ?_ | refine zT ?_ | refine zX ?_) | ((with_reducible refine zY (t := ?_) ?hc (fun h => ?_) (fun h => ?_)); (case hc => rfl); all_goals (try simp [go_sem, he, h0] at h); all_goals try omega) | ((with_reducible first | refine zZ ?_ | refine zd ?_ | refine ze ?_); intro K hK; simp [go_sem, he, h0]; (try simp (disch := omega) only [wrap_i64, okRefs, eq_self, true_and]); (first | apply hK | refine ⟨by first | omega | (simp [appendOk, flatEls, he, h0]; first | done | omega), ?_⟩ | refine ⟨hK _ ?_, fun h => ?_⟩ | refine ⟨?_, ?_⟩); all_goals ((try apply hK); clear hK K))
    simp [go_sem, h0']
  · have hpos : 0 < s.size := by omega
    obtain ⟨b0, hb0, hn0⟩ := strL_get hpos
    have hn := isName_pos hpos
    rw [← hn0] at hn
    by_cases h16 : s.size ≤ 16
    · have h16' : ¬ (16 : Int) < (s.size : Int) := by omega
      cases hl : isLetter (b0.toNat : Int) with
      | false =>
        repeat' first | (with_reducible first | refine zA ?_ | refine zB ?_ | refine zC ?_ | refine zD ?_ | refine zE ?_ | refine zF ?_ | refine zK ?_ | refine zL ?_ | refine zM ?_ | refine zN ?_ | refine zO ?_ | refine zP ?_ | refine zQ (by decide) ?_ | refine zR ?_ | refine zS ?_ | refine zT ?_ | refine zX ?_) | ((with_reducible refine zY (t := ?_) ?hc (fun h => ?_) (fun h => ?_)); (case hc => rfl); all_goals (try simp [go_sem, he, h0, h16', hb0, hl] at h); all_goals try omega) | ((with_reducible first | refine zZ ?_ | refine zd ?_ | refine ze ?_); intro K hK; simp [go_sem, he, h0, h16', hb0, hl]; (try simp (disch := omega) only [wrap_i64, okRefs, eq_self, true_and]); (first | apply hK | ((first | ((try refine .inl ?_); refine ⟨_, by (try intro hc); (repeat' first | exact f131 _ | exact hc | with_reducible refine And.intro ?_ ?_ | simp [go_sem, he, h0, h16', hb0, hl]); first | done | omega, ?_⟩) | refine .inr ⟨_, by (try intro hc); (repeat' first | exact f131 _ | exact hc | with_reducible refine And.intro ?_ ?_ | simp [go_sem, he, h0, h16', hb0, hl]); first | done | omega, ?_⟩); (first | refine hK _ ?_ | refine hK _ _ ?_ | (refine ⟨by simp [go_sem, he, h0, h16', hb0, hl], ?_⟩; first | refine hK _ ?_ | refine hK _ _ ?_ | refine ⟨by simp [go_sem, he, h0, h16', hb0, hl], hK _ _ ?_⟩))) | refine ⟨.one (.one (.bool false)), by simp [go_sem, he, h0, h16', hb0, hl], hK _ _ ?_⟩ | refine ⟨by first | omega | (simp [appendOk, flatEls, he, h0, h16', hb0, hl]; first | done | omega), ?_⟩ | refine ⟨hK _ ?_, fun h => ?_⟩ | refine ⟨?_, ?_⟩); all_goals ((try apply hK); clear hK K))
        simp [go_sem, hn, hl]
      | true =>
        repeat' first | (with_reducible first | refine zA ?_ | refine zB ?_ | refine zC ?_ | refine zD ?_ | refine zE ?_ | refine zF ?_ | refine zK ?_ | refine zL ?_ | refine zM ?_ | refine zN ?_ | refine zO ?_ | refine zP ?_ | refine zQ (by decide) ?_ | refine zR ?_ | refine zS ?_ | refine zT ?_ | refine zX ?_) | ((with_reducible refine zY (t := ?_) ?hc (fun h => ?_) (fun h => ?_)); (case hc => rfl); all_goals (try simp [go_sem, he, h0, h16', hb0, hl] at h); all_goals try omega) | ((with_reducible first | refine zZ ?_ | refine zd ?_ | refine ze ?_); intro K hK; simp [go_sem, he, h0, h16', hb0, hl]; (try simp (disch := omega) only [wrap_i64, okRefs, eq_self, true_and]); (first | apply hK | ((first | ((try refine .inl ?_); refine ⟨_, by (try intro hc); (repeat' first | exact f131 _ | exact hc | with_reducible refine And.intro ?_ ?_ | simp [go_sem, he, h0, h16', hb0, hl]); first | done | omega, ?_⟩) | refine .inr ⟨_, by (try intro hc); (repeat' first | exact f131 _ | exact hc | with_reducible refine And.intro ?_ ?_ | simp [go_sem, he, h0, h16', hb0, hl]); first | done | omega, ?_⟩); (first | refine hK _ ?_ | refine hK _ _ ?_ | (refine ⟨by simp [go_sem, he, h0, h16', hb0, hl], ?_⟩; first | refine hK _ ?_ | refine hK _ _ ?_ | refine ⟨by simp [go_sem, he, h0, h16', hb0, hl], hK _ _ ?_⟩))) | refine ⟨.one (.one (.bool false)), by simp [go_sem, he, h0, h16', hb0, hl], hK _ _ ?_⟩ | refine ⟨by first | omega | (simp [appendOk, flatEls, he, h0, h16', hb0, hl]; first | done | omega), ?_⟩ | refine ⟨hK _ ?_, fun h => ?_⟩ | refine ⟨?_, ?_⟩); all_goals ((try apply hK); clear hK K))
        refine awp_loop (fun n e => ∃ k : Nat, k + n = s.size ∧ ((strL s).take k).all isInner = true ∧ e = [(19, .sv (.one (.int .i64 k))), (18, .sv (.one (.int .i64 s.size))), (0, .sv (.one (.str s)))]) s.size _ ⟨0, by simp, by simp, rfl⟩ (by simp [go_sem]) ?_
        rintro n e ⟨k, hk, hall, rfl⟩
        by_cases hlt : k < s.size
        · have hbn := strL_at hlt
          have hlt' : k < (strL s).length := by rw [strL_len]; exact hlt
          cases hi : isInner ((s[k]).toNat : Int) with
          | false =>
            repeat' first | (with_reducible first | refine zA ?_ | refine zB ?_ | refine zC ?_ | refine zD ?_ | refine zE ?_ | refine zF ?_ | refine zK ?_ | refine zL ?_ | refine zM ?_ | refine zN ?_ | refine zO ?_ | refine zP ?_ | refine zQ (by decide) ?_ | refine zR ?_ | refine zS ?_ | refine zT ?_ | refine zX ?_) | ((with_reducible refine zY (t := ?_) ?hc (fun h => ?_) (fun h => ?_)); (case hc => rfl); all_goals (try simp [go_sem, hlt, hi] at h); all_goals try omega) | ((with_reducible first | refine zZ ?_ | refine zd ?_ | refine ze ?_); intro K hK; simp [go_sem, hlt, hi]; (try simp (disch := omega) only [wrap_i64, okRefs, eq_self, true_and]); (first | apply hK | ((first | ((try refine .inl ?_); refine ⟨_, by (try intro hc); (repeat' first | exact f132 _ | exact hc | with_reducible refine And.intro ?_ ?_ | simp [go_sem, hlt, hi]); first | done | omega, ?_⟩) | refine .inr ⟨_, by (try intro hc); (repeat' first | exact f132 _ | exact hc | with_reducible refine And.intro ?_ ?_ | simp [go_sem, hlt, hi]); first | done | omega, ?_⟩); (first | refine hK _ ?_ | refine hK _ _ ?_ | (refine ⟨by simp [go_sem, hlt, hi], ?_⟩; first | refine hK _ ?_ | refine hK _ _ ?_ | refine ⟨by simp [go_sem, hlt, hi], hK _ _ ?_⟩))) | refine ⟨.one (.one (.bool false)), by simp [go_sem, hlt, hi], hK _ _ ?_⟩ | refine ⟨by first | omega | (simp [appendOk, flatEls, hlt, hi]; first | done | omega), ?_⟩ | refine ⟨hK _ ?_, fun h => ?_⟩ | refine ⟨?_, ?_⟩); all_goals ((try apply hK); clear hK K))
            have := all_no hlt' (by rw [← hbn]; exact hi)
            simp [go_sem, hn, this]
          | true =>
            repeat' first | (with_reducible first | refine zA ?_ | refine zB ?_ | refine zC ?_ | refine zD ?_ | refine zE ?_ | refine zF ?_ | refine zK ?_ | refine zL ?_ | refine zM ?_ | refine zN ?_ | refine zO ?_ | refine zP ?_ | refine zQ (by decide) ?_ | refine zR ?_ | refine zS ?_ | refine zT ?_ | refine zX ?_) | ((with_reducible refine zY (t := ?_) ?hc (fun h => ?_) (fun h => ?_)); (case hc => rfl); all_goals (try simp [go_sem, hlt, hi] at h); all_goals try omega) | ((with_reducible first | refine zZ ?_ | refine zd ?_ | refine ze ?_); intro K hK; simp [go_sem, hlt, hi]; (try simp (disch := omega) only [wrap_i64, okRefs, eq_self, true_and]); (first | apply hK | ((first | ((try refine .inl ?_); refine ⟨_, by (try intro hc); (repeat' first | exact f132 _ | exact hc | with_reducible refine And.intro ?_ ?_ | simp [go_sem, hlt, hi]); first | done | omega, ?_⟩) | refine .inr ⟨_, by (try intro hc); (repeat' first | exact f132 _ | exact hc | with_reducible refine And.intro ?_ ?_ | simp [go_sem, hlt, hi]); first | done | omega, ?_⟩); (first | refine hK _ ?_ | refine hK _ _ ?_ | (refine ⟨by simp [go_sem, hlt, hi], ?_⟩; first | refine hK _ ?_ | refine hK _ _ ?_ | refine ⟨by simp [go_sem, hlt, hi], hK _ _ ?_⟩))) | refine ⟨.one (.one (.bool false)), by simp [go_sem, hlt, hi], hK _ _ ?_⟩ | refine ⟨by first | omega | (simp [appendOk, flatEls, hlt, hi]; first | done | omega), ?_⟩ | refine ⟨hK _ ?_, fun h => ?_⟩ | refine ⟨?_, ?_⟩); all_goals ((try apply hK); clear hK K))
            refine loopQ_normal (n - 1) _ (by omega) ⟨k + 1, by omega, ?_, rfl⟩ ?_
            · rw [all_succ hlt', hall, ← hbn, hi]; rfl
            · simp [go_sem]
        · have htk : (strL s).take k = strL s := List.take_of_length_le (by rw [strL_len]; omega)
          rw [htk] at hall
          repeat' first | (with_reducible first | refine zA ?_ | refine zB ?_ | refine zC ?_ | refine zD ?_ | refine zE ?_ | refine zF ?_ | refine zK ?_ | refine zL ?_ | refine zM ?_ | refine zN ?_ | refine zO ?_ | refine zP ?_ | refine zQ (by decide) ?_ | refine zR ?_ | refine zS ?_ | refine zT ?_ | refine zX ?_) | ((with_reducible refine zY (t := ?_) ?hc (fun h => ?_) (fun h => ?_)); (case hc => rfl); all_goals (try simp [go_sem, hlt] at h); all_goals try omega) | ((with_reducible first | refine zZ ?_ | refine zd ?_ | refine ze ?_); intro K hK; simp [go_sem, hlt]; (try simp (disch := omega) only [wrap_i64, okRefs, eq_self, true_and]); (first | apply hK | refine ⟨by first | omega | (simp [appendOk, flatEls, hlt]; first | done | omega), ?_⟩ | refine ⟨hK _ ?_, fun h => ?_⟩ | refine ⟨?_, ?_⟩); all_goals ((try apply hK); clear hK K))
          simp [go_sem, hn, hl, h16, hall]
    · have h16' : (16 : Int) < (s.size : Int) := by omega
      repeat' first | (with_reducible first | refine zA ?_ | refine zB ?_ | refine zC ?_ | refine zD ?_ | refine zE ?_ | refine zF ?_ | refine zK ?_ | refine zL ?_ | refine zM ?_ | refine zN ?_ | refine zO ?_ | refine zP ?_ | refine zQ (by decide) ?_ | refine zR ?_ | refine zS ?_ | refine zT ?_ | refine zX ?_) | ((with_reducible refine zY (t := ?_) ?hc (fun h => ?_) (fun h => ?_)); (case hc => rfl); all_goals (try simp [go_sem, he, h0, h16', hb0] at h); all_goals try omega) | ((with_reducible first | refine zZ ?_ | refine zd ?_ | refine ze ?_); intro K hK; simp [go_sem, he, h0, h16', hb0]; (try simp (disch := omega) only [wrap_i64, okRefs, eq_self, true_and]); (first | apply hK | refine ⟨by first | omega | (simp [appendOk, flatEls, he, h0, h16', hb0]; first | done | omega), ?_⟩ | refine ⟨hK _ ?_, fun h => ?_⟩ | refine ⟨?_, ?_⟩); all_goals ((try apply hK); clear hK K))
      simp [go_sem, hn, h16]
end Go.Av
namespace Go.Av
open Go Go.RowKit Go.Proofs
set_option maxRecDepth 8000
theorem any_succ {α : Type} {p : α → Bool} {l : List α} {k : Nat} (h : k < l.length) : (l.take (k + 1)).any p = ((l.take k).any p || p l[k]) := by
  rw [List.take_succ_eq_append_getElem h, List.any_append]
  simp
theorem any_yes {α : Type} {p : α → Bool} {l : List α} {k : Nat} (h : k < l.length) (hb : p l[k] = true) : l.any p = true := by
  rw [List.any_eq_true]
  exact ⟨l[k], List.getElem_mem h, hb⟩
def firstB {α : Type} (p : α → Bool) (l : List α) : Int := match l.findIdx? p with
  | some i => (i : Int)
  | none => -1
theorem firstB_at {α : Type} {p : α → Bool} {l : List α} {k : Nat} (hk : k < l.length) (h0 : (l.take k).any p = false) (h1 : p l[k] = true) : firstB p l = k := by
  have : l.findIdx? p = some k := by
    rw [List.findIdx?_eq_some_iff_getElem]
    refine ⟨hk, h1, fun j hj => ?_⟩
    rw [List.any_eq_false] at h0
    have := h0 (l[j]'(by omega)) (List.mem_iff_getElem.2 ⟨j, by rw [List.length_take]; omega, by simp⟩)
    simpa using this
  simp [firstB, this]
theorem firstB_none {α : Type} {p : α → Bool} {l : List α} (h : l.any p = false) : firstB p l = -1 := by
  have : l.findIdx? p = none := by
    rw [List.findIdx?_eq_none_iff]
    intro x hx
    rw [List.any_eq_false] at h
    simpa using h x hx
  simp [firstB, this]
theorem firstB_any {α : Type} (p : α → Bool) (l : List α) : decide (0 ≤ firstB p l) = l.any p := by
  cases h : l.any p with
  | false => rw [firstB_none h]; rfl
  | true =>
    unfold firstB
    cases h2 : l.findIdx? p with
    | none =>
      rw [List.findIdx?_eq_none_iff] at h2
      rw [List.any_eq_true] at h
      obtain ⟨x, hx, hp⟩ := h
      rw [h2 x hx] at hp
      cases hp
    | some i => simp
theorem any_bytes (l : List ByteArray) (x : ByteArray) : l.any (fun y => x == y) = hasS l x := by
  unfold hasS
  congr 1
  funext y
  rw [bytes_eq, bytes_eq]
  by_cases h : x = y
  · subst h; rfl
  · rw [decide_eq_false h, decide_eq_false (fun e => h e.symm)]
theorem f122 (l : List ByteArray) (x : ByteArray) (hl : l.length ≤ 1000000) : Impl Tryz.prog 122 [.one (.sl (l.map encS)), .one (.str x)] (.one (.one (.int .i64 (firstB (fun y => x == y) l)))) := by
  refine impl_z Tryz.func122 z122 Tryz.ntmps122 (by simp) ?_
  simp only [c122, slotsOf]
  repeat' first | (with_reducible first | refine zA ?_ | refine zB ?_ | refine zC ?_ | refine zD ?_ | refine zE ?_ | refine zF ?_ | refine zK ?_ | refine zL ?_ | refine zM ?_ | refine zN ?_ | refine zO ?_ | refine zP ?_ | refine zQ (by decide) ?_ | refine zR ?_ | refine zS ?_ | refine zT ?_ | refine zX ?_) | ((with_reducible refine zY (t := ?_) ?hc (fun h => ?_) (fun h => ?_)); (case hc => rfl); all_goals (try simp [go_sem] at h); all_goals try omega) | ((with_reducible first | refine zZ ?_ | refine zd ?_ | refine ze ?_); intro K hK; simp [go_sem]; (try simp (disch := omega) only [wrap_i64, okRefs, eq_self, true_and]); (first | apply hK | refine ⟨by first | omega | (simp [appendOk, flatEls]; first | done | omega), ?_⟩ | refine ⟨hK _ ?_, fun h => ?_⟩ | refine ⟨?_, ?_⟩); all_goals ((try apply hK); clear hK K))
  refine awp_loop (fun n e => ∃ k : Nat, k + n = l.length ∧ (l.take k).any (fun y => x == y) = false ∧ e = [(8, .sv (.one (.int .i64 k))), (7, .sv (.one (.int .i64 l.length))), (1, .sv (.one (.str x))), (0, .sv (.one (.sl (l.map encS))))]) l.length _ ⟨0, by simp, by simp, rfl⟩ (by simp [go_sem]) ?_
  rintro n e ⟨k, hk, h0, rfl⟩
  by_cases hlt : k < l.length
  · cases hx : (x == l[k]) with
    | true =>
      have hf := firstB_at (p := fun y => x == y) hlt h0 hx
      repeat' first | (with_reducible first | refine zA ?_ | refine zB ?_ | refine zC ?_ | refine zD ?_ | refine zE ?_ | refine zF ?_ | refine zK ?_ | refine zL ?_ | refine zM ?_ | refine zN ?_ | refine zO ?_ | refine zP ?_ | refine zQ (by decide) ?_ | refine zR ?_ | refine zS ?_ | refine zT ?_ | refine zX ?_) | ((with_reducible refine zY (t := ?_) ?hc (fun h => ?_) (fun h => ?_)); (case hc => rfl); all_goals (try simp [go_sem, hlt, encS, hx] at h); all_goals try omega) | ((with_reducible first | refine zZ ?_ | refine zd ?_ | refine ze ?_); intro K hK; simp [go_sem, hlt, encS, hx]; (try simp (disch := omega) only [wrap_i64, okRefs, eq_self, true_and]); (first | apply hK | refine ⟨by first | omega | (simp [appendOk, flatEls, hlt, encS, hx]; first | done | omega), ?_⟩ | refine ⟨hK _ ?_, fun h => ?_⟩ | refine ⟨?_, ?_⟩); all_goals ((try apply hK); clear hK K))
      simp [go_sem, hf]
    | false =>
      repeat' first | (with_reducible first | refine zA ?_ | refine zB ?_ | refine zC ?_ | refine zD ?_ | refine zE ?_ | refine zF ?_ | refine zK ?_ | refine zL ?_ | refine zM ?_ | refine zN ?_ | refine zO ?_ | refine zP ?_ | refine zQ (by decide) ?_ | refine zR ?_ | refine zS ?_ | refine zT ?_ | refine zX ?_) | ((with_reducible refine zY (t := ?_) ?hc (fun h => ?_) (fun h => ?_)); (case hc => rfl); all_goals (try simp [go_sem, hlt, encS, hx] at h); all_goals try omega) | ((with_reducible first | refine zZ ?_ | refine zd ?_ | refine ze ?_); intro K hK; simp [go_sem, hlt, encS, hx]; (try simp (disch := omega) only [wrap_i64, okRefs, eq_self, true_and]); (first | apply hK | refine ⟨by first | omega | (simp [appendOk, flatEls, hlt, encS, hx]; first | done | omega), ?_⟩ | refine ⟨hK _ ?_, fun h => ?_⟩ | refine ⟨?_, ?_⟩); all_goals ((try apply hK); clear hK K))
      refine loopQ_normal (n - 1) _ (by omega) ⟨k + 1, by omega, ?_, rfl⟩ ?_
      · rw [any_succ hlt, h0, hx]; rfl
      · simp [go_sem]
  · have hkl : l.take k = l := List.take_of_length_le (by omega)
    rw [hkl] at h0
    have hf := firstB_none h0
    repeat' first | (with_reducible first | refine zA ?_ | refine zB ?_ | refine zC ?_ | refine zD ?_ | refine zE ?_ | refine zF ?_ | refine zK ?_ | refine zL ?_ | refine zM ?_ | refine zN ?_ | refine zO ?_ | refine zP ?_ | refine zQ (by decide) ?_ | refine zR ?_ | refine zS ?_ | refine zT ?_ | refine zX ?_) | ((with_reducible refine zY (t := ?_) ?hc (fun h => ?_) (fun h => ?_)); (case hc => rfl); all_goals (try simp [go_sem, hlt] at h); all_goals try omega) | ((with_reducible first | refine zZ ?_ | refine zd ?_ | refine ze ?_); intro K hK; simp [go_sem, hlt]; (try simp (disch := omega) only [wrap_i64, okRefs, eq_self, true_and]); (first | apply hK | refine ⟨by first | omega | (simp [appendOk, flatEls, hlt]; first | done | omega), ?_⟩ | refine ⟨hK _ ?_, fun h => ?_⟩ | refine ⟨?_, ?_⟩); all_goals ((try apply hK); clear hK K))
    simp [go_sem, hf]
theorem f106 (l : List ByteArray) (x : ByteArray) (hl : l.length ≤ 1000000) : Impl Tryz.prog 106 [.one (.sl (l.map encS)), .one (.str x)] (.one (.one (.bool (hasS l x)))) := by
  refine impl_z Tryz.func106 z106 Tryz.ntmps106 (by simp) ?_
  simp only [c106, slotsOf]
  have hf := firstB_any (fun y => x == y) l
  rw [any_bytes] at hf
  repeat' first | (with_reducible first | refine zA ?_ | refine zB ?_ | refine zD ?_ | refine zF ?_ | refine zK ?_ | refine zL ?_ | refine zT ?_ | refine zX ?_) | ((with_reducible refine zY (t := ?_) ?hc (fun h => ?_) (fun h => ?_)); (case hc => rfl); all_goals (try simp [go_sem] at h); all_goals try omega) | ((with_reducible first | refine zZ ?_ | refine zd ?_ | refine ze ?_); intro K hK; simp [go_sem]; (try simp (disch := omega) only [wrap_i64, okRefs, eq_self, true_and]); (first | apply hK | ((first | ((try refine .inl ?_); refine ⟨_, by (try intro hc); (repeat' first | exact f122 l x hl | exact hc | with_reducible refine And.intro ?_ ?_ | simp [go_sem]); first | done | omega, ?_⟩) | refine .inr ⟨_, by (try intro hc); (repeat' first | exact f122 l x hl | exact hc | with_reducible refine And.intro ?_ ?_ | simp [go_sem]); first | done | omega, ?_⟩); (first | refine hK _ ?_ | refine hK _ _ ?_ | (refine ⟨by simp [go_sem], ?_⟩; first | refine hK _ ?_ | refine hK _ _ ?_ | refine ⟨by simp [go_sem], hK _ _ ?_⟩))) | refine ⟨.one (.one (.bool false)), by simp [go_sem], hK _ _ ?_⟩ | refine ⟨by first | omega | (simp [appendOk, flatEls]; first | done | omega), ?_⟩ | refine ⟨hK _ ?_, fun h => ?_⟩ | refine ⟨?_, ?_⟩); all_goals ((try apply hK); clear hK K))
  simp [go_sem, hf]
theorem f114 (l : List ByteArray) (x : ByteArray) (hl : l.length ≤ 1000000) : Impl Tryz.prog 114 [.one (.sl (l.map encS)), .one (.str x)] (.one (.one (.bool (hasS l x)))) := by
  refine impl_z Tryz.func114 z114 Tryz.ntmps114 (by simp) ?_
  simp only [c114, slotsOf]
  repeat' first | (with_reducible first | refine zA ?_ | refine zB ?_ | refine zC ?_ | refine zD ?_ | refine zE ?_ | refine zF ?_ | refine zK ?_ | refine zL ?_ | refine zM ?_ | refine zN ?_ | refine zO ?_ | refine zP ?_ | refine zQ (by decide) ?_ | refine zR ?_ | refine zS ?_ | refine zT ?_ | refine zX ?_) | ((with_reducible refine zY (t := ?_) ?hc (fun h => ?_) (fun h => ?_)); (case hc => rfl); all_goals (try simp [go_sem] at h); all_goals try omega) | ((with_reducible first | refine zZ ?_ | refine zd ?_ | refine ze ?_); intro K hK; simp [go_sem]; (try simp (disch := omega) only [wrap_i64, okRefs, eq_self, true_and]); (first | apply hK | refine ⟨by first | omega | (simp [appendOk, flatEls]; first | done | omega), ?_⟩ | refine ⟨hK _ ?_, fun h => ?_⟩ | refine ⟨?_, ?_⟩); all_goals ((try apply hK); clear hK K))
  refine awp_loop (fun n e => ∃ k : Nat, k + n = l.length ∧ (l.take k).any (fun y => y == x) = false ∧ e = [(5, .sv (.one (.int .i64 k))), (1, .sv (.one (.str x))), (0, .sv (.one (.sl (l.map encS))))]) l.length _ ⟨0, by simp, by simp, rfl⟩ (by simp [go_sem]) ?_
  rintro n e ⟨k, hk, h0, rfl⟩
  by_cases hlt : k < l.length
  · cases hx : (l[k] == x) with
    | true =>
      have hf : hasS l x = true := any_yes hlt hx
      repeat' first | (with_reducible first | refine zA ?_ | refine zB ?_ | refine zC ?_ | refine zD ?_ | refine zE ?_ | refine zF ?_ | refine zK ?_ | refine zL ?_ | refine zM ?_ | refine zN ?_ | refine zO ?_ | refine zP ?_ | refine zQ (by decide) ?_ | refine zR ?_ | refine zS ?_ | refine zT ?_ | refine zX ?_) | ((with_reducible refine zY (t := ?_) ?hc (fun h => ?_) (fun h => ?_)); (case hc => rfl); all_goals (try simp [go_sem, hlt, encS, hx] at h); all_goals try omega) | ((with_reducible first | refine zZ ?_ | refine zd ?_ | refine ze ?_); intro K hK; simp [go_sem, hlt, encS, hx]; (try simp (disch := omega) only [wrap_i64, okRefs, eq_self, true_and]); (first | apply hK | refine ⟨by first | omega | (simp [appendOk, flatEls, hlt, encS, hx]; first | done | omega), ?_⟩ | refine ⟨hK _ ?_, fun h => ?_⟩ | refine ⟨?_, ?_⟩); all_goals ((try apply hK); clear hK K))
      simp [go_sem, hf]
    | false =>
      repeat' first | (with_reducible first | refine zA ?_ | refine zB ?_ | refine zC ?_ | refine zD ?_ | refine zE ?_ | refine zF ?_ | refine zK ?_ | refine zL ?_ | refine zM ?_ | refine zN ?_ | refine zO ?_ | refine zP ?_ | refine zQ (by decide) ?_ | refine zR ?_ | refine zS ?_ | refine zT ?_ | refine zX ?_) | ((with_reducible refine zY (t := ?_) ?hc (fun h => ?_) (fun h => ?_)); (case hc => rfl); all_goals (try simp [go_sem, hlt, encS, hx] at h); all_goals try omega) | ((with_reducible first | refine zZ ?_ | refine zd ?_ | refine ze ?_); intro K hK; simp [go_sem, hlt, encS, hx]; (try simp (disch := omega) only [wrap_i64, okRefs, eq_self, true_and]); (first | apply hK | refine ⟨by first | omega | (simp [appendOk, flatEls, hlt, encS, hx]; first | done | omega), ?_⟩ | refine ⟨hK _ ?_, fun h => ?_⟩ | refine ⟨?_, ?_⟩); all_goals ((try apply hK); clear hK K))
      refine loopQ_normal (n - 1) _ (by omega) ⟨k + 1, by omega, ?_, rfl⟩ ?_
      · rw [any_succ hlt, h0, hx]; rfl
      · simp [go_sem]
  · have hkl : l.take k = l := List.take_of_length_le (by omega)
    rw [hkl] at h0
    have hf : hasS l x = false := h0
    repeat' first | (with_reducible first | refine zA ?_ | refine zB ?_ | refine zC ?_ | refine zD ?_ | refine zE ?_ | refine zF ?_ | refine zK ?_ | refine zL ?_ | refine zM ?_ | refine zN ?_ | refine zO ?_ | refine zP ?_ | refine zQ (by decide) ?_ | refine zR ?_ | refine zS ?_ | refine zT ?_ | refine zX ?_) | ((with_reducible refine zY (t := ?_) ?hc (fun h => ?_) (fun h => ?_)); (case hc => rfl); all_goals (try simp [go_sem, hlt] at h); all_goals try omega) | ((with_reducible first | refine zZ ?_ | refine zd ?_ | refine ze ?_); intro K hK; simp [go_sem, hlt]; (try simp (disch := omega) only [wrap_i64, okRefs, eq_self, true_and]); (first | apply hK | refine ⟨by first | omega | (simp [appendOk, flatEls, hlt]; first | done | omega), ?_⟩ | refine ⟨hK _ ?_, fun h => ?_⟩ | refine ⟨?_, ?_⟩); all_goals ((try apply hK); clear hK K))
    simp [go_sem, hf]
theorem f113 (s : ByteArray) : Impl Tryz.prog 113 [.one (.str s)] (.one (.one (.bool (isName s)))) := by
  refine impl_z Tryz.func113 z113 Tryz.ntmps113 (by simp) ?_
  simp only [c113, slotsOf]
  have he := str_empty s
  by_cases h0 : s.size = 0
  · have h0' : isName s = false := isName_zero h0
    repeat' first | (with_reducible first | refine zA ?_ | refine zB ?_ | refine zC ?_ | refine zD ?_ | refine zE ?_ | refine zF ?_ | refine zK ?_ | refine zL ?_ | refine zM ?_ | refine zN ?_ | refine zO ?_ | refine zP ?_ | refine zQ (by decide) ?_ | refine zR ?_ | refine zS ?_ | refine zT ?_ | refine zX ?_) | ((with_reducible refine zY (t := ?_) ?hc (fun h => ?_) (fun h => ?_)); (case hc => rfl); all_goals (try simp [go_sem, he, h0] at h); all_goals try omega) | ((with_reducible first | refine zZ ?_ | refine zd ?_ | refine ze ?_); intro K hK; simp [go_sem, he, h0]; (try simp (disch := omega) only [wrap_i64, okRefs, eq_self, true_and]); (first | apply hK | refine ⟨by first | omega | (simp [appendOk, flatEls, he, h0]; first | done | omega), ?_⟩ | refine ⟨hK _ ?_, fun h => ?_⟩ | refine ⟨?_, ?_⟩); all_goals ((try apply hK); clear hK K))
    simp [go_sem, h0']
  · have hpos : 0 < s.size := by omega
    obtain ⟨b0, hb0, hn0⟩ := strL_get hpos
    have hn := isName_pos hpos
    rw [← hn0] at hn
    cases hl : isLetter (b0.toNat : Int) with
    | false =>
      repeat' first | (with_reducible first | refine zA ?_ | refine zB ?_ | refine zC ?_ | refine zD ?_ | refine zE ?_ | refine zF ?_ | refine zK ?_ | refine zL ?_ | refine zM ?_ | refine zN ?_ | refine zO ?_ | refine zP ?_ | refine zQ (by decide) ?_ | refine zR ?_ | refine zS ?_ | refine zT ?_ | refine zX ?_) | ((with_reducible refine zY (t := ?_) ?hc (fun h => ?_) (fun h => ?_)); (case hc => rfl); all_goals (try simp [go_sem, he, h0, hb0, hl] at h); all_goals try omega) | ((with_reducible first | refine zZ ?_ | refine zd ?_ | refine ze ?_); intro K hK; simp [go_sem, he, h0, hb0, hl]; (try simp (disch := omega) only [wrap_i64, okRefs, eq_self, true_and]); (first | apply hK | ((first | ((try refine .inl ?_); refine ⟨_, by (try intro hc); (repeat' first | exact f126 _ | exact hc | with_reducible refine And.intro ?_ ?_ | simp [go_sem, he, h0, hb0, hl]); first | done | omega, ?_⟩) | refine .inr ⟨_, by (try intro hc); (repeat' first | exact f126 _ | exact hc | with_reducible refine And.intro ?_ ?_ | simp [go_sem, he, h0, hb0, hl]); first | done | omega, ?_⟩); (first | refine hK _ ?_ | refine hK _ _ ?_ | (refine ⟨by simp [go_sem, he, h0, hb0, hl], ?_⟩; first | refine hK _ ?_ | refine hK _ _ ?_ | refine ⟨by simp [go_sem, he, h0, hb0, hl], hK _ _ ?_⟩))) | refine ⟨.one (.one (.bool false)), by simp [go_sem, he, h0, hb0, hl], hK _ _ ?_⟩ | refine ⟨by first | omega | (simp [appendOk, flatEls, he, h0, hb0, hl]; first | done | omega), ?_⟩ | refine ⟨hK _ ?_, fun h => ?_⟩ | refine ⟨?_, ?_⟩); all_goals ((try apply hK); clear hK K))
      simp [go_sem, hn, hl]
    | true =>
      by_cases h16 : s.size ≤ 16
      · have h16' : ¬ (16 : Int) < (s.size : Int) := by omega
        repeat' first | (with_reducible first | refine zA ?_ | refine zB ?_ | refine zC ?_ | refine zD ?_ | refine zE ?_ | refine zF ?_ | refine zK ?_ | refine zL ?_ | refine zM ?_ | refine zN ?_ | refine zO ?_ | refine zP ?_ | refine zQ (by decide) ?_ | refine zR ?_ | refine zS ?_ | refine zT ?_ | refine zX ?_) | ((with_reducible refine zY (t := ?_) ?hc (fun h => ?_) (fun h => ?_)); (case hc => rfl); all_goals (try simp [go_sem, he, h0, h16', hb0, hl] at h); all_goals try omega) | ((with_reducible first | refine zZ ?_ | refine zd ?_ | refine ze ?_); intro K hK; simp [go_sem, he, h0, h16', hb0, hl]; (try simp (disch := omega) only [wrap_i64, okRefs, eq_self, true_and]); (first | apply hK | ((first | ((try refine .inl ?_); refine ⟨_, by (try intro hc); (repeat' first | exact f126 _ | exact hc | with_reducible refine And.intro ?_ ?_ | simp [go_sem, he, h0, h16', hb0, hl]); first | done | omega, ?_⟩) | refine .inr ⟨_, by (try intro hc); (repeat' first | exact f126 _ | exact hc | with_reducible refine And.intro ?_ ?_ | simp [go_sem, he, h0, h16', hb0, hl]); first | done | omega, ?_⟩); (first | refine hK _ ?_ | refine hK _ _ ?_ | (refine ⟨by simp [go_sem, he, h0, h16', hb0, hl], ?_⟩; first | refine hK _ ?_ | refine hK _ _ ?_ | refine ⟨by simp [go_sem, he, h0, h16', hb0, hl], hK _ _ ?_⟩))) | refine ⟨.one (.one (.bool false)), by simp [go_sem, he, h0, h16', hb0, hl], hK _ _ ?_⟩ | refine ⟨by first | omega | (simp [appendOk, flatEls, he, h0, h16', hb0, hl]; first | done | omega), ?_⟩ | refine ⟨hK _ ?_, fun h => ?_⟩ | refine ⟨?_, ?_⟩); all_goals ((try apply hK); clear hK K))
        refine awp_loop (fun n e => ∃ k : Nat, k + n = s.size ∧ ((strL s).take k).all isInner = true ∧ e = [(3, .sv (.one (.int .i64 k))), (0, .sv (.one (.str s)))]) s.size _ ⟨0, by simp, by simp, rfl⟩ (by simp [go_sem]) ?_
        rintro n e ⟨k, hk, hall, rfl⟩
        by_cases hlt : k < s.size
        · have hbn := strL_at hlt
          have hlt' : k < (strL s).length := by rw [strL_len]; exact hlt
          cases hi : isInner ((s[k]).toNat : Int) with
          | false =>
            repeat' first | (with_reducible first | refine zA ?_ | refine zB ?_ | refine zC ?_ | refine zD ?_ | refine zE ?_ | refine zF ?_ | refine zK ?_ | refine zL ?_ | refine zM ?_ | refine zN ?_ | refine zO ?_ | refine zP ?_ | refine zQ (by decide) ?_ | refine zR ?_ | refine zS ?_ | refine zT ?_ | refine zX ?_) | ((with_reducible refine zY (t := ?_) ?hc (fun h => ?_) (fun h => ?_)); (case hc => rfl); all_goals (try simp [go_sem, hlt, hi] at h); all_goals try omega) | ((with_reducible first | refine zZ ?_ | refine zd ?_ | refine ze ?_); intro K hK; simp [go_sem, hlt, hi]; (try simp (disch := omega) only [wrap_i64, okRefs, eq_self, true_and]); (first | apply hK | ((first | ((try refine .inl ?_); refine ⟨_, by (try intro hc); (repeat' first | exact f127 _ | exact hc | with_reducible refine And.intro ?_ ?_ | simp [go_sem, hlt, hi]); first | done | omega, ?_⟩) | refine .inr ⟨_, by (try intro hc); (repeat' first | exact f127 _ | exact hc | with_reducible refine And.intro ?_ ?_ | simp [go_sem, hlt, hi]); first | done | omega, ?_⟩); (first | refine hK _ ?_ | refine hK _ _ ?_ | (refine ⟨by simp [go_sem, hlt, hi], ?_⟩; first | refine hK _ ?_ | refine hK _ _ ?_ | refine ⟨by simp [go_sem, hlt, hi], hK _ _ ?_⟩))) | refine ⟨.one (.one (.bool false)), by simp [go_sem, hlt, hi], hK _ _ ?_⟩ | refine ⟨by first | omega | (simp [appendOk, flatEls, hlt, hi]; first | done | omega), ?_⟩ | refine ⟨hK _ ?_, fun h => ?_⟩ | refine ⟨?_, ?_⟩); all_goals ((try apply hK); clear hK K))
            have := all_no hlt' (by rw [← hbn]; exact hi)
            simp [go_sem, hn, this]
          | true =>
            repeat' first | (with_reducible first | refine zA ?_ | refine zB ?_ | refine zC ?_ | refine zD ?_ | refine zE ?_ | refine zF ?_ | refine zK ?_ | refine zL ?_ | refine zM ?_ | refine zN ?_ | refine zO ?_ | refine zP ?_ | refine zQ (by decide) ?_ | refine zR ?_ | refine zS ?_ | refine zT ?_ | refine zX ?_) | ((with_reducible refine zY (t := ?_) ?hc (fun h => ?_) (fun h => ?_)); (case hc => rfl); all_goals (try simp [go_sem, hlt, hi] at h); all_goals try omega) | ((with_reducible first | refine zZ ?_ | refine zd ?_ | refine ze ?_); intro K hK; simp [go_sem, hlt, hi]; (try simp (disch := omega) only [wrap_i64, okRefs, eq_self, true_and]); (first | apply hK | ((first | ((try refine .inl ?_); refine ⟨_, by (try intro hc); (repeat' first | exact f127 _ | exact hc | with_reducible refine And.intro ?_ ?_ | simp [go_sem, hlt, hi]); first | done | omega, ?_⟩) | refine .inr ⟨_, by (try intro hc); (repeat' first | exact f127 _ | exact hc | with_reducible refine And.intro ?_ ?_ | simp [go_sem, hlt, hi]); first | done | omega, ?_⟩); (first | refine hK _ ?_ | refine hK _ _ ?_ | (refine ⟨by simp [go_sem, hlt, hi], ?_⟩; first | refine hK _ ?_ | refine hK _ _ ?_ | refine ⟨by simp [go_sem, hlt, hi], hK _ _ ?_⟩))) | refine ⟨.one (.one (.bool false)), by simp [go_sem, hlt, hi], hK _ _ ?_⟩ | refine ⟨by first | omega | (simp [appendOk, flatEls, hlt, hi]; first | done | omega), ?_⟩ | refine ⟨hK _ ?_, fun h => ?_⟩ | refine ⟨?_, ?_⟩); all_goals ((try apply hK); clear hK K))
            refine loopQ_normal (n - 1) _ (by omega) ⟨k + 1, by omega, ?_, rfl⟩ ?_
            · rw [all_succ hlt', hall, ← hbn, hi]; rfl
            · simp [go_sem]
        · have htk : (strL s).take k = strL s := List.take_of_length_le (by rw [strL_len]; omega)
          rw [htk] at hall
          repeat' first | (with_reducible first | refine zA ?_ | refine zB ?_ | refine zC ?_ | refine zD ?_ | refine zE ?_ | refine zF ?_ | refine zK ?_ | refine zL ?_ | refine zM ?_ | refine zN ?_ | refine zO ?_ | refine zP ?_ | refine zQ (by decide) ?_ | refine zR ?_ | refine zS ?_ | refine zT ?_ | refine zX ?_) | ((with_reducible refine zY (t := ?_) ?hc (fun h => ?_) (fun h => ?_)); (case hc => rfl); all_goals (try simp [go_sem, hlt] at h); all_goals try omega) | ((with_reducible first | refine zZ ?_ | refine zd ?_ | refine ze ?_); intro K hK; simp [go_sem, hlt]; (try simp (disch := omega) only [wrap_i64, okRefs, eq_self, true_and]); (first | apply hK | refine ⟨by first | omega | (simp [appendOk, flatEls, hlt]; first | done | omega), ?_⟩ | refine ⟨hK _ ?_, fun h => ?_⟩ | refine ⟨?_, ?_⟩); all_goals ((try apply hK); clear hK K))
          simp [go_sem, hn, hl, h16, hall]
      · have h16' : (16 : Int) < (s.size : Int) := by omega
        repeat' first | (with_reducible first | refine zA ?_ | refine zB ?_ | refine zC ?_ | refine zD ?_ | refine zE ?_ | refine zF ?_ | refine zK ?_ | refine zL ?_ | refine zM ?_ | refine zN ?_ | refine zO ?_ | refine zP ?_ | refine zQ (by decide) ?_ | refine zR ?_ | refine zS ?_ | refine zT ?_ | refine zX ?_) | ((with_reducible refine zY (t := ?_) ?hc (fun h => ?_) (fun h => ?_)); (case hc => rfl); all_goals (try simp [go_sem, he, h0, h16', hb0, hl] at h); all_goals try omega) | ((with_reducible first | refine zZ ?_ | refine zd ?_ | refine ze ?_); intro K hK; simp [go_sem, he, h0, h16', hb0, hl]; (try simp (disch := omega) only [wrap_i64, okRefs, eq_self, true_and]); (first | apply hK | ((first | ((try refine .inl ?_); refine ⟨_, by (try intro hc); (repeat' first | exact f126 _ | exact hc | with_reducible refine And.intro ?_ ?_ | simp [go_sem, he, h0, h16', hb0, hl]); first | done | omega, ?_⟩) | refine .inr ⟨_, by (try intro hc); (repeat' first | exact f126 _ | exact hc | with_reducible refine And.intro ?_ ?_ | simp [go_sem, he, h0, h16', hb0, hl]); first | done | omega, ?_⟩); (first | refine hK _ ?_ | refine hK _ _ ?_ | (refine ⟨by simp [go_sem, he, h0, h16', hb0, hl], ?_⟩; first | refine hK _ ?_ | refine hK _ _ ?_ | refine ⟨by simp [go_sem, he, h0, h16', hb0, hl], hK _ _ ?_⟩))) | refine ⟨.one (.one (.bool false)), by simp [go_sem, he, h0, h16', hb0, hl], hK _ _ ?_⟩ | refine ⟨by first | omega | (simp [appendOk, flatEls, he, h0, h16', hb0, hl]; first | done | omega), ?_⟩ | refine ⟨hK _ ?_, fun h => ?_⟩ | refine ⟨?_, ?_⟩); all_goals ((try apply hK); clear hK K))
        simp [go_sem, hn, h16]
theorem f115 : Impl Tryz.prog 115 [] (.one (.one (.ow 1 (kws.map encS)))) := by
  refine impl_z Tryz.func115 z115 Tryz.ntmps115 (by simp) ?_
  simp only [c115, slotsOf]
  repeat' first | (with_reducible first | refine zA ?_ | refine zB ?_ | refine zD ?_ | refine zF ?_ | refine zK ?_ | refine zL ?_ | refine zT ?_ | refine zX ?_) | ((with_reducible refine zY (t := ?_) ?hc (fun h => ?_) (fun h => ?_)); (case hc => rfl); all_goals (try simp [go_sem] at h); all_goals try omega) | ((with_reducible first | refine zZ ?_ | refine zd ?_ | refine ze ?_); intro K hK; simp [go_sem]; (try simp (disch := omega) only [wrap_i64, okRefs, eq_self, true_and]); (first | apply hK | refine ⟨by first | omega | (simp [appendOk, flatEls]; first | done | omega), ?_⟩ | refine ⟨hK _ ?_, fun h => ?_⟩ | refine ⟨?_, ?_⟩); all_goals ((try apply hK); clear hK K))
  simp [go_sem, kws, encS]
theorem kws_len : kws.length ≤ 1000000 := by decide
theorem f98 (s : ByteArray) : Impl Tryz.prog 98 [.one (.str s)] (.one (.one (.bool (isWord s)))) := by
  refine impl_z Tryz.func98 z98 Tryz.ntmps98 (by simp) ?_
  simp only [c98, slotsOf]
  cases hn : isName s with
  | true =>
    repeat' first | (with_reducible first | refine zA ?_ | refine zB ?_ | refine zD ?_ | refine zF ?_ | refine zK ?_ | refine zL ?_ | refine zT ?_ | refine zX ?_) | ((with_reducible refine zY (t := ?_) ?hc (fun h => ?_) (fun h => ?_)); (case hc => rfl); all_goals (try simp [go_sem, hn] at h); all_goals try omega) | ((with_reducible first | refine zZ ?_ | refine zd ?_ | refine ze ?_); intro K hK; simp [go_sem, hn]; (try simp (disch := omega) only [wrap_i64, okRefs, eq_self, true_and]); (first | apply hK | ((first | ((try refine .inl ?_); refine ⟨_, by (try intro hc); (repeat' first | exact f113 s | exact f115 | exact f114 kws s kws_len | exact hc | with_reducible refine And.intro ?_ ?_ | simp [go_sem, hn]); first | done | omega, ?_⟩) | refine .inr ⟨_, by (try intro hc); (repeat' first | exact f113 s | exact f115 | exact f114 kws s kws_len | exact hc | with_reducible refine And.intro ?_ ?_ | simp [go_sem, hn]); first | done | omega, ?_⟩); (first | refine hK _ ?_ | refine hK _ _ ?_ | (refine ⟨by simp [go_sem, hn], ?_⟩; first | refine hK _ ?_ | refine hK _ _ ?_ | refine ⟨by simp [go_sem, hn], hK _ _ ?_⟩))) | refine ⟨.one (.one (.bool false)), by simp [go_sem, hn], hK _ _ ?_⟩ | refine ⟨by first | omega | (simp [appendOk, flatEls, hn]; first | done | omega), ?_⟩ | refine ⟨hK _ ?_, fun h => ?_⟩ | refine ⟨?_, ?_⟩); all_goals ((try apply hK); clear hK K))
    simp [go_sem, isWord, hn]
  | false =>
    repeat' first | (with_reducible first | refine zA ?_ | refine zB ?_ | refine zD ?_ | refine zF ?_ | refine zK ?_ | refine zL ?_ | refine zT ?_ | refine zX ?_) | ((with_reducible refine zY (t := ?_) ?hc (fun h => ?_) (fun h => ?_)); (case hc => rfl); all_goals (try simp [go_sem, hn] at h); all_goals try omega) | ((with_reducible first | refine zZ ?_ | refine zd ?_ | refine ze ?_); intro K hK; simp [go_sem, hn]; (try simp (disch := omega) only [wrap_i64, okRefs, eq_self, true_and]); (first | apply hK | ((first | ((try refine .inl ?_); refine ⟨_, by (try intro hc); (repeat' first | exact f113 s | exact hc | with_reducible refine And.intro ?_ ?_ | simp [go_sem, hn]); first | done | omega, ?_⟩) | refine .inr ⟨_, by (try intro hc); (repeat' first | exact f113 s | exact hc | with_reducible refine And.intro ?_ ?_ | simp [go_sem, hn]); first | done | omega, ?_⟩); (first | refine hK _ ?_ | refine hK _ _ ?_ | (refine ⟨by simp [go_sem, hn], ?_⟩; first | refine hK _ ?_ | refine hK _ _ ?_ | refine ⟨by simp [go_sem, hn], hK _ _ ?_⟩))) | refine ⟨.one (.one (.bool false)), by simp [go_sem, hn], hK _ _ ?_⟩ | refine ⟨by first | omega | (simp [appendOk, flatEls, hn]; first | done | omega), ?_⟩ | refine ⟨hK _ ?_, fun h => ?_⟩ | refine ⟨?_, ?_⟩); all_goals ((try apply hK); clear hK K))
    simp [go_sem, isWord, hn]
theorem f128 (s : ByteArray) : Impl Tryz.prog 128 [.one (.str s)] (.one (.one (.bool (isWord s)))) := by
  refine impl_z Tryz.func128 z128 Tryz.ntmps128 (by simp) ?_
  simp only [c128, slotsOf]
  repeat' first | (with_reducible first | refine zA ?_ | refine zB ?_ | refine zD ?_ | refine zF ?_ | refine zK ?_ | refine zL ?_ | refine zT ?_ | refine zX ?_) | ((with_reducible refine zY (t := ?_) ?hc (fun h => ?_) (fun h => ?_)); (case hc => rfl); all_goals (try simp [go_sem] at h); all_goals try omega) | ((with_reducible first | refine zZ ?_ | refine zd ?_ | refine ze ?_); intro K hK; simp [go_sem]; (try simp (disch := omega) only [wrap_i64, okRefs, eq_self, true_and]); (first | apply hK | ((first | ((try refine .inl ?_); refine ⟨_, by (try intro hc); (repeat' first | exact f98 s | exact hc | with_reducible refine And.intro ?_ ?_ | simp [go_sem]); first | done | omega, ?_⟩) | refine .inr ⟨_, by (try intro hc); (repeat' first | exact f98 s | exact hc | with_reducible refine And.intro ?_ ?_ | simp [go_sem]); first | done | omega, ?_⟩); (first | refine hK _ ?_ | refine hK _ _ ?_ | (refine ⟨by simp [go_sem], ?_⟩; first | refine hK _ ?_ | refine hK _ _ ?_ | refine ⟨by simp [go_sem], hK _ _ ?_⟩))) | refine ⟨.one (.one (.bool false)), by simp [go_sem], hK _ _ ?_⟩ | refine ⟨by first | omega | (simp [appendOk, flatEls]; first | done | omega), ?_⟩ | refine ⟨hK _ ?_, fun h => ?_⟩ | refine ⟨?_, ?_⟩); all_goals ((try apply hK); clear hK K))
  simp [go_sem]
theorem f105 (s : ByteArray) : Impl Tryz.prog 105 [.one (.str s)] (.one (.one (.bool (isWord s)))) := by
  refine impl_z Tryz.func105 z105 Tryz.ntmps105 (by simp) ?_
  simp only [c105, slotsOf]
  have f106s := f106 kws s kws_len
  simp only [kws, List.map_cons, List.map_nil, encS] at f106s
  have hw : isWord s = (isName s && !hasS kws s) := rfl
  simp only [kws] at hw
  cases hn : isName s with
  | true =>
    repeat' first | (with_reducible first | refine zA ?_ | refine zB ?_ | refine zD ?_ | refine zF ?_ | refine zK ?_ | refine zL ?_ | refine zT ?_ | refine zX ?_) | ((with_reducible refine zY (t := ?_) ?hc (fun h => ?_) (fun h => ?_)); (case hc => rfl); all_goals (try simp [go_sem, hn] at h); all_goals try omega) | ((with_reducible first | refine zZ ?_ | refine zd ?_ | refine ze ?_); intro K hK; simp [go_sem, hn]; (try simp (disch := omega) only [wrap_i64, okRefs, eq_self, true_and]); (first | apply hK | ((first | ((try refine .inl ?_); refine ⟨_, by (try intro hc); (repeat' first | exact f121 s | exact f106s | exact hc | with_reducible refine And.intro ?_ ?_ | simp [go_sem, hn]); first | done | omega, ?_⟩) | refine .inr ⟨_, by (try intro hc); (repeat' first | exact f121 s | exact f106s | exact hc | with_reducible refine And.intro ?_ ?_ | simp [go_sem, hn]); first | done | omega, ?_⟩); (first | refine hK _ ?_ | refine hK _ _ ?_ | (refine ⟨by simp [go_sem, hn], ?_⟩; first | refine hK _ ?_ | refine hK _ _ ?_ | refine ⟨by simp [go_sem, hn], hK _ _ ?_⟩))) | refine ⟨.one (.one (.bool false)), by simp [go_sem, hn], hK _ _ ?_⟩ | refine ⟨by first | omega | (simp [appendOk, flatEls, hn]; first | done | omega), ?_⟩ | refine ⟨hK _ ?_, fun h => ?_⟩ | refine ⟨?_, ?_⟩); all_goals ((try apply hK); clear hK K))
    simp [go_sem, hw, hn]
  | false =>
    repeat' first | (with_reducible first | refine zA ?_ | refine zB ?_ | refine zD ?_ | refine zF ?_ | refine zK ?_ | refine zL ?_ | refine zT ?_ | refine zX ?_) | ((with_reducible refine zY (t := ?_) ?hc (fun h => ?_) (fun h => ?_)); (case hc => rfl); all_goals (try simp [go_sem, hn] at h); all_goals try omega) | ((with_reducible first | refine zZ ?_ | refine zd ?_ | refine ze ?_); intro K hK; simp [go_sem, hn]; (try simp (disch := omega) only [wrap_i64, okRefs, eq_self, true_and]); (first | apply hK | ((first | ((try refine .inl ?_); refine ⟨_, by (try intro hc); (repeat' first | exact f121 s | exact hc | with_reducible refine And.intro ?_ ?_ | simp [go_sem, hn]); first | done | omega, ?_⟩) | refine .inr ⟨_, by (try intro hc); (repeat' first | exact f121 s | exact hc | with_reducible refine And.intro ?_ ?_ | simp [go_sem, hn]); first | done | omega, ?_⟩); (first | refine hK _ ?_ | refine hK _ _ ?_ | (refine ⟨by simp [go_sem, hn], ?_⟩; first | refine hK _ ?_ | refine hK _ _ ?_ | refine ⟨by simp [go_sem, hn], hK _ _ ?_⟩))) | refine ⟨.one (.one (.bool false)), by simp [go_sem, hn], hK _ _ ?_⟩ | refine ⟨by first | omega | (simp [appendOk, flatEls, hn]; first | done | omega), ?_⟩ | refine ⟨hK _ ?_, fun h => ?_⟩ | refine ⟨?_, ?_⟩); all_goals ((try apply hK); clear hK K))
    simp [go_sem, hw, hn]
end Go.Av
namespace Go.Av
open Go Go.RowKit Go.Proofs
set_option maxHeartbeats 1000000 in
set_option maxRecDepth 100000 in
theorem str_count (s : ByteArray) (c : UInt8) (w : World) :
    Calls Tryz.prog 154 #[.string s, .string ⟨#[c]⟩] w fun e w' => e = .returned (.int .i64 (Lib.countByte s.data.toList c)) ∧ w' = w := by
  go_enter Tryz.func154, Tryz.ntmps154
  go_wp2
  rw [run_callFunc_extern Tryz.func158 (by kernel_rfl) (by kernel_rfl) (by kernel_rfl) (e := Extern.BytealgCount.count) (by kernel_rfl), Lib.run_countString]
  simp only [Result.andThen]
  rw [Oper.upon_value]
  go_wp2
  go_ret
  exact ⟨rfl, rfl⟩
set_option maxHeartbeats 1000000 in
set_option maxRecDepth 100000 in
theorem str_indexByte (s : ByteArray) (c : Int) (w : World) :
    Calls Tryz.prog 161 #[.string s, .int .u8 c] w fun e w' => e = .returned (.int .i64 (Lib.indexByte s.data.toList c.toNat.toUInt8)) ∧ w' = w := by
  go_enter Tryz.func161, Tryz.ntmps161
  go_wp2
  rw [run_callFunc_extern Tryz.func165 (by kernel_rfl) (by kernel_rfl) (by kernel_rfl) (e := Extern.BytealgIndexByte.indexByte) (by kernel_rfl), Lib.run_indexByteString]
  simp only [Result.andThen]
  rw [Oper.upon_value]
  go_wp2
  go_ret
  exact ⟨rfl, rfl⟩
set_option maxHeartbeats 2000000 in
set_option maxRecDepth 100000 in
theorem str_index1 (s : ByteArray) (c : UInt8) (w : World) :
    Calls Tryz.prog 159 #[.string s, .string ⟨#[c]⟩] w fun e w' => e = .returned (.int .i64 (Lib.indexByte s.data.toList c)) ∧ w' = w := by
  go_enter Tryz.func159, Tryz.ntmps159
  go_wp2_with (go_at_call 161; refine (str_indexByte _ _ _).mono ?_; rintro e w' ⟨rfl, rfl⟩)
  · have h : ([c] == s.toList) = true := by assumption
    go_ret
    refine ⟨?_, rfl⟩
    have e : s.data.toList = [c] := by rw [← Lib.toList_data]; exact (beq_iff_eq.1 h).symm
    rw [e]
    simp [Lib.indexByte]
  · go_ret
    exact ⟨rfl, rfl⟩
set_option maxHeartbeats 1000000 in
theorem str_index (s : ByteArray) (c : UInt8) (w : World) :
    Calls Tryz.prog 155 #[.string s, .string ⟨#[c]⟩] w fun e w' => e = .returned (.int .i64 (Lib.indexByte s.data.toList c)) ∧ w' = w := by
  go_enter Tryz.func155, Tryz.ntmps155
  go_wp2_with (go_at_call 159; refine (str_index1 _ _ _).mono ?_; rintro e w' ⟨rfl, rfl⟩)
  go_ret
  exact ⟨rfl, rfl⟩
theorem Impl.ofStr2 {P : Program} {f : FuncId} {fn : Func} (hf : P.funcs[f]? = some fn) (hb : fn.body.isSome = true) (hn : fn.name ≠ "runtime.NumGoroutine") {s t : ByteArray} {k : IntKind} {n : Int}
    (h : ∀ w, Calls P f #[.string s, .string t] w fun e w' => e = .returned (.int k n) ∧ w' = w) : Impl P f [.one (.str s), .one (.str t)] (.one (.one (.int k n))) := by
  refine ⟨⟨fn, hf, hb, hn⟩, fun w S vs hS hv => ?_⟩
  have hvs : vs = [.string s, .string t] := by
    generalize hr : ([] : List Nat) = r at hv
    cases hv with
    | cons v x r vs xs rs h1 h2 =>
      cases h2 with
      | cons v' x' r' vs' xs' rs' h3 h4 =>
        cases h4
        cases CzS.one_inv h1
        cases CzS.one_inv h3
        rfl
  subst hvs
  refine (h w).mono ?_
  rintro e w' ⟨rfl, rfl⟩
  exact ⟨_, [], rfl, Below.refl _ _, by simp, by simp, .one _ _ _ (.one _ _ _ (.int _ _))⟩
end Go.Av
namespace Go.Av
open Go
def pieceL : List UInt8 → List (List UInt8)
  | [] => [[]]
  | b :: l => if b = 46 then [] :: pieceL l else match pieceL l with
    | [] => [[b]]
    | p :: ps => (b :: p) :: ps
theorem pieceL_ne : ∀ (l : List UInt8), pieceL l ≠ []
  | [] => by simp [pieceL]
  | b :: l => by
    unfold pieceL
    split
    · simp
    · split <;> simp
theorem pieceL_no : ∀ {l : List UInt8}, 46 ∉ l → pieceL l = [l]
  | [], _ => rfl
  | b :: l, h => by
    have h1 : b ≠ 46 := fun e => h (by simp [e])
    have h2 := pieceL_no (l := l) fun e => h (by simp [e])
    simp [pieceL, h1, h2]
theorem pieceL_at : ∀ {a l : List UInt8}, 46 ∉ a → pieceL (a ++ 46 :: l) = a :: pieceL l
  | [], l, _ => by simp [pieceL]
  | b :: a, l, h => by
    have h1 : b ≠ 46 := fun e => h (by simp [e])
    have h2 := pieceL_at (a := a) (l := l) fun e => h (by simp [e])
    simp [pieceL, h1, h2]
def toB (l : List UInt8) : ByteArray := ⟨l.toArray⟩
theorem toB_list (s : ByteArray) : toB s.data.toList = s := by simp [toB]
theorem list_toB (l : List UInt8) : (toB l).data.toList = l := by simp [toB]
theorem size_toB (l : List UInt8) : (toB l).size = l.length := by simp [toB, ByteArray.size]
theorem extract_toB (l : List UInt8) (a b : Nat) : (toB l).extract a b = toB ((l.take b).drop a) := by
  have h : ((toB l).extract a b).data.toList = ((l.take b).drop a) := by
    rw [ByteArray.data_extract, Array.toList_extract, list_toB, List.extract_eq_take_drop, List.drop_take]
  rw [← h, toB_list]
theorem index_no : ∀ {l : List UInt8}, 46 ∉ l → Lib.indexByte l 46 = -1
  | [], _ => rfl
  | b :: l, h => by
    have h1 : ¬ b = 46 := fun e => h (by simp [e])
    have h2 := index_no (l := l) fun e => h (by simp [e])
    simp [Lib.indexByte, h1, h2]
theorem index_at : ∀ {a l : List UInt8}, 46 ∉ a → Lib.indexByte (a ++ 46 :: l) 46 = a.length
  | [], l, _ => by simp [Lib.indexByte]
  | b :: a, l, h => by
    have h1 : ¬ b = 46 := fun e => h (by simp [e])
    have h2 := index_at (a := a) (l := l) fun e => h (by simp [e])
    have h3 : ¬ ((a.length : Int) = -1) := by omega
    simp [Lib.indexByte, h1, h2, h3]
theorem count_at (a l : List UInt8) (h : 46 ∉ a) : Lib.countByte (a ++ 46 :: l) 46 = Lib.countByte l 46 + 1 := by
  simp [Lib.countByte, List.count_append, List.count_eq_zero.2 h]
theorem split_at : ∀ (l : List UInt8), 46 ∈ l → ∃ a b, l = a ++ 46 :: b ∧ 46 ∉ a
  | [], h => by cases h
  | x :: l, h => by
    by_cases e : x = 46
    · subst e
      exact ⟨[], l, rfl, by simp⟩
    · rcases List.mem_cons.1 h with h | h
      · exact (e h.symm).elim
      · obtain ⟨a, b, rfl, h2⟩ := split_at l h
        exact ⟨x :: a, b, rfl, by simp [h2, Ne.symm e]⟩
theorem pieceL_len : ∀ (l : List UInt8), (pieceL l).length = Lib.countByte l 46 + 1
  | [] => rfl
  | b :: l => by
    have ih := pieceL_len l
    unfold pieceL
    simp only [Lib.countByte, List.count_cons] at ih ⊢
    split
    · rename_i e
      subst e
      simp [ih]
    · rename_i e
      have hn := pieceL_ne l
      split
      · contradiction
      · rename_i p ps hp
        rw [hp] at ih
        simp [e] at ih ⊢
        omega
def pieceB (s : ByteArray) : List ByteArray := (pieceL s.data.toList).map toB
end Go.Av
namespace Go.Av
open Go Go.RowKit Go.Proofs
set_option maxRecDepth 8000
theorem f154 (l : List UInt8) : Impl Tryz.prog 154 [.one (.str (toB l)), .one (.str ⟨#[46]⟩)] (.one (.one (.int .i64 (Lib.countByte l 46 : Nat)))) := by
  have := Impl.ofStr2 (s := toB l) (t := ⟨#[46]⟩) Tryz.func154 rfl (by decide) fun w => str_count (toB l) 46 w
  rwa [list_toB] at this
theorem f155 (l : List UInt8) : Impl Tryz.prog 155 [.one (.str (toB l)), .one (.str ⟨#[46]⟩)] (.one (.one (.int .i64 (Lib.indexByte l 46)))) := by
  have := Impl.ofStr2 (s := toB l) (t := ⟨#[46]⟩) Tryz.func155 rfl (by decide) fun w => str_index (toB l) 46 w
  rwa [list_toB] at this
def fillA (p : List ByteArray) (n i : Nat) : List ByteArray := p.take i ++ List.replicate (n - i) ⟨#[]⟩
theorem fillA_len (p : List ByteArray) {n i : Nat} (hp : p.length = n) (h : i ≤ n) : (fillA p n i).length = n := by simp [fillA]; omega
theorem fillA_set (p : List ByteArray) {n i : Nat} (hp : p.length = n) (h : i < n) : (fillA p n i).set i (p[i]'(by omega)) = fillA p n (i + 1) := by
  apply List.ext_getElem
  · rw [List.length_set, fillA_len p hp (by omega), fillA_len p hp (by omega)]
  · intro k h1 h2
    rw [List.length_set, fillA_len p hp (by omega)] at h1
    simp only [fillA, List.getElem_set, List.getElem_append, List.length_take, List.getElem_take, List.getElem_replicate]
    by_cases e : i = k
    · subst e
      rw [if_pos rfl, dif_pos (by omega)]
    · rw [if_neg e]
      by_cases hk : k < i
      · rw [dif_pos (by omega), dif_pos (by omega)]
      · rw [dif_neg (by omega), dif_neg (by omega)]
theorem fillA_full (p : List ByteArray) {n : Nat} (hp : p.length = n) : fillA p n n = p := by
  simp [fillA, ← hp]
theorem f152 (l : List UInt8) (hl : l.length ≤ 1000000) : Impl Tryz.prog 152 [.one (.str (toB l)), .one (.str ⟨#[46]⟩), .one (.int .i64 0), .one (.int .i64 (-1))] (.one (.one (.ow 1 ((pieceB (toB l)).map encS)))) := by
  refine impl_z Tryz.func152 z152 Tryz.ntmps152 (by simp) ?_
  simp only [c152, slotsOf]
  have hpl := pieceL_len l
  have hcl : Lib.countByte l 46 ≤ l.length := List.count_le_length
  have hsz := size_toB l
  obtain ⟨P, hP⟩ : ∃ P, P = pieceB (toB l) := ⟨_, rfl⟩
  have hPn : P.length = Lib.countByte l 46 + 1 := by rw [hP, pieceB, List.length_map, list_toB, hpl]
  obtain ⟨c, hc⟩ : ∃ c, Lib.countByte l 46 = c := ⟨_, rfl⟩
  rw [hc] at hcl hPn
  have f154s := f154 l
  rw [hc] at f154s
  have hmin : min ((c : Int) + 1) ((l.length : Int) + 1) = (c : Int) + 1 := by omega
  have h46 : (⟨#[46]⟩ : ByteArray).size = 1 := rfl
  have h0 : ((⟨#[46]⟩ : ByteArray) == ⟨#[]⟩) = false := by decide
  rw [← hP]
  repeat' first | (with_reducible first | refine zA ?_ | refine zB ?_ | refine zC ?_ | refine zD ?_ | refine zE ?_ | refine zF ?_ | refine zK ?_ | refine zL ?_ | refine zM ?_ | refine zN ?_ | refine zO ?_ | refine zP ?_ | refine zQ (by decide) ?_ | refine zR ?_ | refine zS ?_ | refine zT ?_ | refine zX ?_) | ((with_reducible refine zY (t := ?_) ?hc (fun h => ?_) (fun h => ?_)); (case hc => rfl); all_goals (try simp [go_sem, hsz, hmin, h46, h0] at h); all_goals try omega) | ((with_reducible first | refine zZ ?_ | refine zd ?_ | refine ze ?_); intro K hK; simp [go_sem, hsz, hmin, h46, h0]; (try simp (disch := omega) only [wrap_i64, okRefs, eq_self, true_and]); (first | apply hK | ((first | ((try refine .inl ?_); refine ⟨_, by (try intro hc); (repeat' first | exact f154s | exact hc | with_reducible refine And.intro ?_ ?_ | simp [go_sem, hsz, hmin, h46, h0]); first | done | omega, ?_⟩) | refine .inr ⟨_, by (try intro hc); (repeat' first | exact f154s | exact hc | with_reducible refine And.intro ?_ ?_ | simp [go_sem, hsz, hmin, h46, h0]); first | done | omega, ?_⟩); (first | refine hK _ ?_ | refine hK _ _ ?_ | (refine ⟨by simp [go_sem, hsz, hmin, h46, h0], ?_⟩; first | refine hK _ ?_ | refine hK _ _ ?_ | refine ⟨by simp [go_sem, hsz, hmin, h46, h0], hK _ _ ?_⟩))) | refine ⟨.one (.one (.bool false)), by simp [go_sem, hsz, hmin, h46, h0], hK _ _ ?_⟩ | refine ⟨by first | omega | (simp [appendOk, flatEls, hsz, hmin, h46, h0]; first | done | omega), ?_⟩ | refine ⟨hK _ ?_, fun h => ?_⟩ | refine ⟨?_, ?_⟩); all_goals ((try apply hK); clear hK K))
  refine awp_loop (fun n e => ∃ (i : Nat) (rest : List UInt8), i + n = c ∧ pieceL l = (pieceL l).take i ++ pieceL rest ∧ rest.length ≤ l.length ∧ e = [(10, .sv (.one (.int .i64 i))), (3, .sv (.one (.int .i64 c))), (9, .sv (.one (.ow 1 ((fillA P (c + 1) i).map encS)))), (1, .sv (.one (.str ⟨#[46]⟩))), (2, .sv (.one (.int .i64 0))), (0, .sv (.one (.str (toB rest))))]) c _ ⟨0, l, by simp, by simp, Nat.le_refl _, rfl⟩ (by simp [go_sem, fillA, encS]) ?_
  rintro n e ⟨i, rest, hi, hpr, hrl, rfl⟩
  have hplen := congrArg List.length hpr
  rw [List.length_append, List.length_take, pieceL_len rest, hpl, hc] at hplen
  have hPL : P = (pieceL l).map toB := by rw [hP, pieceB, list_toB]
  have hsr := size_toB rest
  have hfl := fillA_len P hPn (show i ≤ c + 1 by omega)
  by_cases hlt : i < c
  · have hmem : 46 ∈ rest := by
      rcases Nat.eq_zero_or_pos (Lib.countByte rest 46) with h | h
      · omega
      · exact List.count_pos_iff.1 h
    obtain ⟨a, b, hab, ha⟩ := split_at rest hmem
    have hix : Lib.indexByte rest 46 = (a.length : Int) := by rw [hab]; exact index_at ha
    have he1 : (toB rest).extract 0 a.length = toB a := by
      rw [extract_toB, hab, List.drop_zero, List.take_left]
    have hrb : rest.length = a.length + 1 + b.length := by rw [hab]; simp; omega
    have he2 : (toB rest).extract (a.length + 1) rest.length = toB b := by
      rw [extract_toB, List.take_of_length_le (Nat.le_refl _), hab]
      have : (a ++ 46 :: b).drop (a.length + 1) = b := by
        have e : a ++ 46 :: b = (a ++ [46]) ++ b := by simp
        rw [e]
        exact List.drop_left' (by simp)
      rw [this]
    have hpr2 : pieceL l = (pieceL l).take i ++ a :: pieceL b := by
      rw [← pieceL_at ha, ← hab]
      exact hpr
    have hti : ((pieceL l).take i).length = i := by rw [List.length_take, hpl, hc]; omega
    have hil : i < (pieceL l).length := by rw [hpl, hc]; omega
    have hPi : P[i]'(by omega) = toB a := by
      have h1 : (pieceL l)[i]? = some a := by
        rw [hpr2, List.getElem?_append_right (by omega), hti]
        simp
      have h2 : P[i]? = some (toB a) := by rw [hPL, List.getElem?_map, h1]; rfl
      rw [List.getElem?_eq_getElem (by omega)] at h2
      injection h2
    have hset := fillA_set P hPn (show i < c + 1 by omega)
    rw [hPi] at hset
    have hset2 : ((fillA P (c + 1) i).map encS).set i [.str (toB a)] = (fillA P (c + 1) (i + 1)).map encS := by
      rw [← hset, List.map_set]
      rfl
    have hpr3 : pieceL l = (pieceL l).take (i + 1) ++ pieceL b := by
      have h1 : (pieceL l).take (i + 1) = (pieceL l).take i ++ [a] := by
        conv => lhs; rw [hpr2]
        have e : (pieceL l).take i ++ a :: pieceL b = ((pieceL l).take i ++ [a]) ++ pieceL b := by simp
        rw [e]
        exact List.take_left' (by rw [List.length_append, hti]; rfl)
      rw [h1]
      rw [List.append_assoc]
      exact hpr2
    have f155s := f155 rest
    rw [hix] at f155s
    generalize a.length = m at *
    have hb : b.length ≤ l.length := by omega
    have hmr : (m : Int) ≤ rest.length := by omega
    repeat' first | (with_reducible first | refine zA ?_ | refine zB ?_ | refine zC ?_ | refine zD ?_ | refine zE ?_ | refine zF ?_ | refine zK ?_ | refine zL ?_ | refine zM ?_ | refine zN ?_ | refine zO ?_ | refine zP ?_ | refine zQ (by decide) ?_ | refine zR ?_ | refine zS ?_ | refine zT ?_ | refine zX ?_) | ((with_reducible refine zY (t := ?_) ?hc (fun h => ?_) (fun h => ?_)); (case hc => rfl); all_goals (try simp [go_sem, hlt, h46, hsr, he1, he2, hfl, encS] at h); all_goals try omega) | ((with_reducible first | refine zZ ?_ | refine zd ?_ | refine ze ?_); intro K hK; simp [go_sem, hlt, h46, hsr, he1, he2, hfl, encS]; (try simp (disch := omega) only [wrap_i64, okRefs, eq_self, true_and]); (first | apply hK | ((first | ((try refine .inl ?_); refine ⟨_, by (try intro hc); (repeat' first | exact f155s | exact hc | with_reducible refine And.intro ?_ ?_ | simp [go_sem, hlt, h46, hsr, he1, he2, hfl, encS]); first | done | omega, ?_⟩) | refine .inr ⟨_, by (try intro hc); (repeat' first | exact f155s | exact hc | with_reducible refine And.intro ?_ ?_ | simp [go_sem, hlt, h46, hsr, he1, he2, hfl, encS]); first | done | omega, ?_⟩); (first | refine hK _ ?_ | refine hK _ _ ?_ | (refine ⟨by simp [go_sem, hlt, h46, hsr, he1, he2, hfl, encS], ?_⟩; first | refine hK _ ?_ | refine hK _ _ ?_ | refine ⟨by simp [go_sem, hlt, h46, hsr, he1, he2, hfl, encS], hK _ _ ?_⟩))) | refine ⟨.one (.one (.bool false)), by simp [go_sem, hlt, h46, hsr, he1, he2, hfl, encS], hK _ _ ?_⟩ | refine ⟨by first | omega | (simp [appendOk, flatEls, hlt, h46, hsr, he1, he2, hfl, encS]; first | done | omega), ?_⟩ | refine ⟨hK _ ?_, fun h => ?_⟩ | refine ⟨?_, ?_⟩); all_goals ((try apply hK); clear hK K))
    refine loopQ_normal (n - 1) _ (by omega) ⟨i + 1, b, by omega, hpr3, hb, rfl⟩ ?_
    simp [go_sem, hset2]
  · have hic : i = c := by omega
    subst hic
    have hno : 46 ∉ rest := by
      intro h
      have := List.count_pos_iff.2 h
      have : 0 < Lib.countByte rest 46 := this
      omega
    rw [pieceL_no hno] at hpr
    have hti : ((pieceL l).take i).length = i := by rw [List.length_take, hpl, hc]; omega
    have hPi : P[i]'(by omega) = toB rest := by
      have h1 : (pieceL l)[i]? = some rest := by
        rw [hpr, List.getElem?_append_right (by omega), hti]
        simp
      have h2 : P[i]? = some (toB rest) := by rw [hPL, List.getElem?_map, h1]; rfl
      rw [List.getElem?_eq_getElem (by omega)] at h2
      injection h2
    have hset := fillA_set P hPn (show i < i + 1 by omega)
    rw [hPi, fillA_full P hPn] at hset
    have hset2 : ((fillA P (i + 1) i).map encS).set i [.str (toB rest)] = P.map encS := by
      have := congrArg (List.map encS) hset
      rw [List.map_set] at this
      exact this
    have htk : (P.map encS).take (i + 1) = P.map encS := List.take_of_length_le (by simp [hPn])
    repeat' first | (with_reducible first | refine zA ?_ | refine zB ?_ | refine zC ?_ | refine zD ?_ | refine zE ?_ | refine zF ?_ | refine zK ?_ | refine zL ?_ | refine zM ?_ | refine zN ?_ | refine zO ?_ | refine zP ?_ | refine zQ (by decide) ?_ | refine zR ?_ | refine zS ?_ | refine zT ?_ | refine zX ?_) | ((with_reducible refine zY (t := ?_) ?hc (fun h => ?_) (fun h => ?_)); (case hc => rfl); all_goals (try simp [go_sem, hlt, hfl, encS, hset2, hPn, htk] at h); all_goals try omega) | ((with_reducible first | refine zZ ?_ | refine zd ?_ | refine ze ?_); intro K hK; simp [go_sem, hlt, hfl, encS, hset2, hPn, htk]; (try simp (disch := omega) only [wrap_i64, okRefs, eq_self, true_and]); (first | apply hK | refine ⟨by first | omega | (simp [appendOk, flatEls, hlt, hfl, encS, hset2, hPn, htk]; first | done | omega), ?_⟩ | refine ⟨hK _ ?_, fun h => ?_⟩ | refine ⟨?_, ?_⟩); all_goals ((try apply hK); clear hK K))
    simp [go_sem]
theorem f148 (l : List UInt8) (hl : l.length ≤ 1000000) : Impl Tryz.prog 148 [.one (.str (toB l)), .one (.str ⟨#[46]⟩)] (.one (.one (.ow 1 ((pieceB (toB l)).map encS)))) := by
  refine impl_z Tryz.func148 z148 Tryz.ntmps148 (by simp) ?_
  simp only [c148, slotsOf]
  repeat' first | (with_reducible first | refine zA ?_ | refine zB ?_ | refine zD ?_ | refine zF ?_ | refine zK ?_ | refine zL ?_ | refine zT ?_ | refine zX ?_) | ((with_reducible refine zY (t := ?_) ?hc (fun h => ?_) (fun h => ?_)); (case hc => rfl); all_goals (try simp [go_sem] at h); all_goals try omega) | ((with_reducible first | refine zZ ?_ | refine zd ?_ | refine ze ?_); intro K hK; simp [go_sem]; (try simp (disch := omega) only [wrap_i64, okRefs, eq_self, true_and]); (first | apply hK | ((first | ((try refine .inl ?_); refine ⟨_, by (try intro hc); (repeat' first | exact f152 l hl | exact hc | with_reducible refine And.intro ?_ ?_ | simp [go_sem]); first | done | omega, ?_⟩) | refine .inr ⟨_, by (try intro hc); (repeat' first | exact f152 l hl | exact hc | with_reducible refine And.intro ?_ ?_ | simp [go_sem]); first | done | omega, ?_⟩); (first | refine hK _ ?_ | refine hK _ _ ?_ | (refine ⟨by simp [go_sem], ?_⟩; first | refine hK _ ?_ | refine hK _ _ ?_ | refine ⟨by simp [go_sem], hK _ _ ?_⟩))) | refine ⟨.one (.one (.bool false)), by simp [go_sem], hK _ _ ?_⟩ | refine ⟨by first | omega | (simp [appendOk, flatEls]; first | done | omega), ?_⟩ | refine ⟨hK _ ?_, fun h => ?_⟩ | refine ⟨?_, ?_⟩); all_goals ((try apply hK); clear hK K))
  simp [go_sem]
end Go.Av
namespace Go.Av
open Go Go.RowKit Go.Proofs
set_option maxRecDepth 8000
def isPath (s : ByteArray) : Bool := decide (s.size ≤ 50) && (pieceB s).all isWord
theorem f149 (s : ByteArray) : Impl Tryz.prog 149 [.one (.str s)] (.one (.one (.bool (!isWord s)))) := by
  refine impl_z Tryz.func149 z149 Tryz.ntmps149 (by simp) ?_
  simp only [c149, slotsOf]
  repeat' first | (with_reducible first | refine zA ?_ | refine zB ?_ | refine zD ?_ | refine zF ?_ | refine zK ?_ | refine zL ?_ | refine zT ?_ | refine zX ?_) | ((with_reducible refine zY (t := ?_) ?hc (fun h => ?_) (fun h => ?_)); (case hc => rfl); all_goals (try simp [go_sem] at h); all_goals try omega) | ((with_reducible first | refine zZ ?_ | refine zd ?_ | refine ze ?_); intro K hK; simp [go_sem]; (try simp (disch := omega) only [wrap_i64, okRefs, eq_self, true_and]); (first | apply hK | ((first | ((try refine .inl ?_); refine ⟨_, by (try intro hc); (repeat' first | exact f105 s | exact hc | with_reducible refine And.intro ?_ ?_ | simp [go_sem]); first | done | omega, ?_⟩) | refine .inr ⟨_, by (try intro hc); (repeat' first | exact f105 s | exact hc | with_reducible refine And.intro ?_ ?_ | simp [go_sem]); first | done | omega, ?_⟩); (first | refine hK _ ?_ | refine hK _ _ ?_ | (refine ⟨by simp [go_sem], ?_⟩; first | refine hK _ ?_ | refine hK _ _ ?_ | refine ⟨by simp [go_sem], hK _ _ ?_⟩))) | refine ⟨.one (.one (.bool false)), by simp [go_sem], hK _ _ ?_⟩ | refine ⟨by first | omega | (simp [appendOk, flatEls]; first | done | omega), ?_⟩ | refine ⟨hK _ ?_, fun h => ?_⟩ | refine ⟨?_, ?_⟩); all_goals ((try apply hK); clear hK K))
  simp [go_sem]
theorem f151 (l : List ByteArray) (g : FuncId) (caps : List DV) (p : ByteArray → Bool) (hl : l.length ≤ 1000000) (hg : ∀ x ∈ l, Impl Tryz.prog g (.one (.str x) :: caps.map .one) (.one (.one (.bool (p x))))) :
    Impl Tryz.prog 151 [.one (.sl (l.map encS)), .one (.fn g caps)] (.one (.one (.int .i64 (firstB p l)))) := by
  refine impl_z Tryz.func151 z151 Tryz.ntmps151 (by simp) ?_
  simp only [c151, slotsOf]
  repeat' first | (with_reducible first | refine zA ?_ | refine zB ?_ | refine zC ?_ | refine zD ?_ | refine zE ?_ | refine zF ?_ | refine zK ?_ | refine zL ?_ | refine zM ?_ | refine zN ?_ | refine zO ?_ | refine zP ?_ | refine zQ (by decide) ?_ | refine zR ?_ | refine zS ?_ | refine zT ?_ | refine zX ?_) | ((with_reducible refine zY (t := ?_) ?hc (fun h => ?_) (fun h => ?_)); (case hc => rfl); all_goals (try simp [go_sem] at h); all_goals try omega) | ((with_reducible first | refine zZ ?_ | refine zd ?_ | refine ze ?_); intro K hK; simp [go_sem]; (try simp (disch := omega) only [wrap_i64, okRefs, eq_self, true_and]); (first | apply hK | refine ⟨by first | omega | (simp [appendOk, flatEls]; first | done | omega), ?_⟩ | refine ⟨hK _ ?_, fun h => ?_⟩ | refine ⟨?_, ?_⟩); all_goals ((try apply hK); clear hK K))
  refine awp_loop (fun n e => ∃ k : Nat, k + n = l.length ∧ (l.take k).any p = false ∧ e = [(8, .sv (.one (.int .i64 k))), (7, .sv (.one (.int .i64 l.length))), (1, .sv (.one (.fn g caps))), (0, .sv (.one (.sl (l.map encS))))]) l.length _ ⟨0, by simp, by simp, rfl⟩ (by simp [go_sem]) ?_
  rintro n e ⟨k, hk, h0, rfl⟩
  by_cases hlt : k < l.length
  · have hgs := hg l[k] (List.getElem_mem hlt)
    cases hx : p l[k] with
    | true =>
      have hf := firstB_at hlt h0 hx
      rw [hx] at hgs
      repeat' first | (with_reducible first | refine zA ?_ | refine zB ?_ | refine zC ?_ | refine zD ?_ | refine zE ?_ | refine zF ?_ | refine zK ?_ | refine zL ?_ | refine zM ?_ | refine zN ?_ | refine zO ?_ | refine zP ?_ | refine zQ (by decide) ?_ | refine zR ?_ | refine zS ?_ | refine zT ?_ | refine zX ?_) | ((with_reducible refine zY (t := ?_) ?hc (fun h => ?_) (fun h => ?_)); (case hc => rfl); all_goals (try simp [go_sem, hlt, encS] at h); all_goals try omega) | ((with_reducible first | refine zZ ?_ | refine zd ?_ | refine ze ?_); intro K hK; simp [go_sem, hlt, encS]; (try simp (disch := omega) only [wrap_i64, okRefs, eq_self, true_and]); (first | apply hK | ((first | ((try refine .inl ?_); refine ⟨_, by (try intro hc); (repeat' first | exact hgs | exact hc | with_reducible refine And.intro ?_ ?_ | simp [go_sem, hlt, encS]); first | done | omega, ?_⟩) | refine .inr ⟨_, by (try intro hc); (repeat' first | exact hgs | exact hc | with_reducible refine And.intro ?_ ?_ | simp [go_sem, hlt, encS]); first | done | omega, ?_⟩); (first | refine hK _ ?_ | refine hK _ _ ?_ | (refine ⟨by simp [go_sem, hlt, encS], ?_⟩; first | refine hK _ ?_ | refine hK _ _ ?_ | refine ⟨by simp [go_sem, hlt, encS], hK _ _ ?_⟩))) | refine ⟨.one (.one (.bool false)), by simp [go_sem, hlt, encS], hK _ _ ?_⟩ | refine ⟨by first | omega | (simp [appendOk, flatEls, hlt, encS]; first | done | omega), ?_⟩ | refine ⟨hK _ ?_, fun h => ?_⟩ | refine ⟨?_, ?_⟩); all_goals ((try apply hK); clear hK K))
      simp [go_sem, hf]
    | false =>
      rw [hx] at hgs
      repeat' first | (with_reducible first | refine zA ?_ | refine zB ?_ | refine zC ?_ | refine zD ?_ | refine zE ?_ | refine zF ?_ | refine zK ?_ | refine zL ?_ | refine zM ?_ | refine zN ?_ | refine zO ?_ | refine zP ?_ | refine zQ (by decide) ?_ | refine zR ?_ | refine zS ?_ | refine zT ?_ | refine zX ?_) | ((with_reducible refine zY (t := ?_) ?hc (fun h => ?_) (fun h => ?_)); (case hc => rfl); all_goals (try simp [go_sem, hlt, encS] at h); all_goals try omega) | ((with_reducible first | refine zZ ?_ | refine zd ?_ | refine ze ?_); intro K hK; simp [go_sem, hlt, encS]; (try simp (disch := omega) only [wrap_i64, okRefs, eq_self, true_and]); (first | apply hK | ((first | ((try refine .inl ?_); refine ⟨_, by (try intro hc); (repeat' first | exact hgs | exact hc | with_reducible refine And.intro ?_ ?_ | simp [go_sem, hlt, encS]); first | done | omega, ?_⟩) | refine .inr ⟨_, by (try intro hc); (repeat' first | exact hgs | exact hc | with_reducible refine And.intro ?_ ?_ | simp [go_sem, hlt, encS]); first | done | omega, ?_⟩); (first | refine hK _ ?_ | refine hK _ _ ?_ | (refine ⟨by simp [go_sem, hlt, encS], ?_⟩; first | refine hK _ ?_ | refine hK _ _ ?_ | refine ⟨by simp [go_sem, hlt, encS], hK _ _ ?_⟩))) | refine ⟨.one (.one (.bool false)), by simp [go_sem, hlt, encS], hK _ _ ?_⟩ | refine ⟨by first | omega | (simp [appendOk, flatEls, hlt, encS]; first | done | omega), ?_⟩ | refine ⟨hK _ ?_, fun h => ?_⟩ | refine ⟨?_, ?_⟩); all_goals ((try apply hK); clear hK K))
      refine loopQ_normal (n - 1) _ (by omega) ⟨k + 1, by omega, ?_, rfl⟩ ?_
      · rw [any_succ hlt, h0, hx]; rfl
      · simp [go_sem]
  · have hkl : l.take k = l := List.take_of_length_le (by omega)
    rw [hkl] at h0
    have hf := firstB_none h0
    repeat' first | (with_reducible first | refine zA ?_ | refine zB ?_ | refine zC ?_ | refine zD ?_ | refine zE ?_ | refine zF ?_ | refine zK ?_ | refine zL ?_ | refine zM ?_ | refine zN ?_ | refine zO ?_ | refine zP ?_ | refine zQ (by decide) ?_ | refine zR ?_ | refine zS ?_ | refine zT ?_ | refine zX ?_) | ((with_reducible refine zY (t := ?_) ?hc (fun h => ?_) (fun h => ?_)); (case hc => rfl); all_goals (try simp [go_sem, hlt] at h); all_goals try omega) | ((with_reducible first | refine zZ ?_ | refine zd ?_ | refine ze ?_); intro K hK; simp [go_sem, hlt]; (try simp (disch := omega) only [wrap_i64, okRefs, eq_self, true_and]); (first | apply hK | refine ⟨by first | omega | (simp [appendOk, flatEls, hlt]; first | done | omega), ?_⟩ | refine ⟨hK _ ?_, fun h => ?_⟩ | refine ⟨?_, ?_⟩); all_goals ((try apply hK); clear hK K))
    simp [go_sem, hf]
theorem f147 (l : List ByteArray) (g : FuncId) (caps : List DV) (p : ByteArray → Bool) (hl : l.length ≤ 1000000) (hg : ∀ x ∈ l, Impl Tryz.prog g (.one (.str x) :: caps.map .one) (.one (.one (.bool (p x))))) :
    Impl Tryz.prog 147 [.one (.sl (l.map encS)), .one (.fn g caps)] (.one (.one (.bool (l.any p)))) := by
  refine impl_z Tryz.func147 z147 Tryz.ntmps147 (by simp) ?_
  simp only [c147, slotsOf]
  have hf := firstB_any p l
  repeat' first | (with_reducible first | refine zA ?_ | refine zB ?_ | refine zD ?_ | refine zF ?_ | refine zK ?_ | refine zL ?_ | refine zT ?_ | refine zX ?_) | ((with_reducible refine zY (t := ?_) ?hc (fun h => ?_) (fun h => ?_)); (case hc => rfl); all_goals (try simp [go_sem] at h); all_goals try omega) | ((with_reducible first | refine zZ ?_ | refine zd ?_ | refine ze ?_); intro K hK; simp [go_sem]; (try simp (disch := omega) only [wrap_i64, okRefs, eq_self, true_and]); (first | apply hK | ((first | ((try refine .inl ?_); refine ⟨_, by (try intro hc); (repeat' first | exact f151 l g caps p hl hg | exact hc | with_reducible refine And.intro ?_ ?_ | simp [go_sem]); first | done | omega, ?_⟩) | refine .inr ⟨_, by (try intro hc); (repeat' first | exact f151 l g caps p hl hg | exact hc | with_reducible refine And.intro ?_ ?_ | simp [go_sem]); first | done | omega, ?_⟩); (first | refine hK _ ?_ | refine hK _ _ ?_ | (refine ⟨by simp [go_sem], ?_⟩; first | refine hK _ ?_ | refine hK _ _ ?_ | refine ⟨by simp [go_sem], hK _ _ ?_⟩))) | refine ⟨.one (.one (.bool false)), by simp [go_sem], hK _ _ ?_⟩ | refine ⟨by first | omega | (simp [appendOk, flatEls]; first | done | omega), ?_⟩ | refine ⟨hK _ ?_, fun h => ?_⟩ | refine ⟨?_, ?_⟩); all_goals ((try apply hK); clear hK K))
  simp [go_sem, hf]
theorem any_not {α : Type} (p : α → Bool) (l : List α) : (!l.any fun x => !p x) = l.all p := by
  rw [Bool.eq_iff_iff]
  simp
theorem f134 (s : ByteArray) : Impl Tryz.prog 134 [.one (.str s)] (.one (.one (.bool (isPath s)))) := by
  refine impl_z Tryz.func134 z134 Tryz.ntmps134 (by simp) ?_
  simp only [c134, slotsOf]
  by_cases h50 : s.size ≤ 50
  · have h50' : (s.size : Int) ≤ 50 := by omega
    have hln : s.data.toList.length = s.size := by simp
    have f148s := f148 s.data.toList (by omega)
    rw [toB_list] at f148s
    have hpl : (pieceB s).length ≤ 1000000 := by
      rw [pieceB, List.length_map, pieceL_len]
      have : Lib.countByte s.data.toList 46 ≤ s.data.toList.length := List.count_le_length
      omega
    have f147s := f147 (pieceB s) 149 [] (fun x => !isWord x) hpl (fun x _ => f149 x)
    have ha := any_not isWord (pieceB s)
    repeat' first | (with_reducible first | refine zA ?_ | refine zB ?_ | refine zD ?_ | refine zF ?_ | refine zK ?_ | refine zL ?_ | refine zT ?_ | refine zX ?_) | ((with_reducible refine zY (t := ?_) ?hc (fun h => ?_) (fun h => ?_)); (case hc => rfl); all_goals (try simp [go_sem, h50'] at h); all_goals try omega) | ((with_reducible first | refine zZ ?_ | refine zd ?_ | refine ze ?_); intro K hK; simp [go_sem, h50']; (try simp (disch := omega) only [wrap_i64, okRefs, eq_self, true_and]); (first | apply hK | ((first | ((try refine .inl ?_); refine ⟨_, by (try intro hc); (repeat' first | exact f148s | exact f147s | exact hc | with_reducible refine And.intro ?_ ?_ | simp [go_sem, h50']); first | done | omega, ?_⟩) | refine .inr ⟨_, by (try intro hc); (repeat' first | exact f148s | exact f147s | exact hc | with_reducible refine And.intro ?_ ?_ | simp [go_sem, h50']); first | done | omega, ?_⟩); (first | refine hK _ ?_ | refine hK _ _ ?_ | (refine ⟨by simp [go_sem, h50'], ?_⟩; first | refine hK _ ?_ | refine hK _ _ ?_ | refine ⟨by simp [go_sem, h50'], hK _ _ ?_⟩))) | refine ⟨.one (.one (.bool false)), by simp [go_sem, h50'], hK _ _ ?_⟩ | refine ⟨by first | omega | (simp [appendOk, flatEls, h50']; first | done | omega), ?_⟩ | refine ⟨hK _ ?_, fun h => ?_⟩ | refine ⟨?_, ?_⟩); all_goals ((try apply hK); clear hK K))
    simp [go_sem, isPath, h50, ha]
  · have h50' : ¬ (s.size : Int) ≤ 50 := by omega
    repeat' first | (with_reducible first | refine zA ?_ | refine zB ?_ | refine zD ?_ | refine zF ?_ | refine zK ?_ | refine zL ?_ | refine zT ?_ | refine zX ?_) | ((with_reducible refine zY (t := ?_) ?hc (fun h => ?_) (fun h => ?_)); (case hc => rfl); all_goals (try simp [go_sem, h50'] at h); all_goals try omega) | ((with_reducible first | refine zZ ?_ | refine zd ?_ | refine ze ?_); intro K hK; simp [go_sem, h50']; (try simp (disch := omega) only [wrap_i64, okRefs, eq_self, true_and]); (first | apply hK | refine ⟨by first | omega | (simp [appendOk, flatEls, h50']; first | done | omega), ?_⟩ | refine ⟨hK _ ?_, fun h => ?_⟩ | refine ⟨?_, ?_⟩); all_goals ((try apply hK); clear hK K))
    simp [go_sem, isPath, h50]
end Go.Av
namespace Go.Av
open Go Go.RowKit Go.Proofs
set_option maxRecDepth 8000
theorem drop_split {L : List UInt8} {i f : Nat} (hf : f ≤ i) (hi : i < L.length) (h46 : L[i] = 46) : L.drop f = (L.drop f).take (i - f) ++ 46 :: L.drop (i + 1) := by
  have h1 : (L.drop f).drop (i - f) = 46 :: L.drop (i + 1) := by
    rw [List.drop_drop, show f + (i - f) = i by omega, List.drop_eq_getElem_cons hi, h46]
  rw [← h1, List.take_append_drop]
theorem f117 (s : ByteArray) (hl : s.size ≤ 1000000000000000) : Impl Tryz.prog 117 [.one (.str s)] (.one (.one (.bool (isPath s)))) := by
  refine impl_z Tryz.func117 z117 Tryz.ntmps117 (by simp) ?_
  simp only [c117, slotsOf]
  obtain ⟨L, hL⟩ : ∃ L, L = s.data.toList := ⟨_, rfl⟩
  have hsL : s = toB L := by rw [hL, toB_list]
  have hsz : s.size = L.length := by rw [hsL, size_toB]
  have hpB : pieceB s = (pieceL L).map toB := by rw [pieceB, hL]
  repeat' first | (with_reducible first | refine zA ?_ | refine zB ?_ | refine zC ?_ | refine zD ?_ | refine zE ?_ | refine zF ?_ | refine zK ?_ | refine zL ?_ | refine zM ?_ | refine zN ?_ | refine zO ?_ | refine zP ?_ | refine zQ (by decide) ?_ | refine zR ?_ | refine zS ?_ | refine zT ?_ | refine zX ?_) | ((with_reducible refine zY (t := ?_) ?hc (fun h => ?_) (fun h => ?_)); (case hc => rfl); all_goals (try simp [go_sem] at h); all_goals try omega) | ((with_reducible first | refine zZ ?_ | refine zd ?_ | refine ze ?_); intro K hK; simp [go_sem]; (try simp (disch := omega) only [wrap_i64, okRefs, eq_self, true_and]); (first | apply hK | refine ⟨by first | omega | (simp [appendOk, flatEls]; first | done | omega), ?_⟩ | refine ⟨hK _ ?_, fun h => ?_⟩ | refine ⟨?_, ?_⟩); all_goals ((try apply hK); clear hK K))
  refine awp_loop (fun n e => ∃ (i f : Nat), i + n = L.length + 1 ∧ ((i ≤ L.length ∧ f ≤ i ∧ 46 ∉ (L.drop f).take (i - f) ∧ ∃ pre, pieceL L = pre ++ pieceL (L.drop f) ∧ (pre.map toB).all isWord = true) ∨ (i = L.length + 1 ∧ (pieceB s).all isWord = true)) ∧ f ≤ L.length + 1 ∧ e = [(4, .sv (.one (.int .i64 i))), (3, .sv (.one (.int .i64 f))), (0, .sv (.one (.str s)))]) (L.length + 1) _ ⟨0, 0, by simp, .inl ⟨by simp, by simp, by simp, [], by simp, by simp⟩, by simp, rfl⟩ (by simp [go_sem]) ?_
  rintro n e ⟨i, f, hi, hst, hfl, rfl⟩
  rcases hst with ⟨hil, hfi, hno, pre, hpre, hall⟩ | ⟨hie, hall⟩
  · have hle : (i : Int) ≤ (s.size : Int) := by omega
    have hex : s.extract f i = toB ((L.take i).drop f) := by rw [hsL, extract_toB]
    have hpc : (L.take i).drop f = (L.drop f).take (i - f) := by rw [List.drop_take]
    by_cases hlt : i < L.length
    · have hlt' : i < s.size := by omega
      have hne : ¬ (i : Int) = (s.size : Int) := by omega
      have hbi : s[i] = L[i] := by
        simp only [hL, ByteArray.getElem_eq_getElem_data]
        simp
      by_cases h46 : L[i] = 46
      · have h46' : (s[i].toNat : Int) = 46 := by rw [hbi, h46]; rfl
        have hds := drop_split hfi hlt h46
        have hpl : pieceL (L.drop f) = (L.drop f).take (i - f) :: pieceL (L.drop (i + 1)) := by
          conv => lhs; rw [hds]
          exact pieceL_at hno
        have f128s := f128 (s.extract f i)
        cases hw : isWord (s.extract f i) with
        | false =>
          rw [hw] at f128s
          have hf : isPath s = false := by
            unfold isPath
            rw [hpB, hpre, hpl, List.map_append, List.map_cons, List.all_append, List.all_cons, ← hpc, ← hex, hw]
            simp
          repeat' first | (with_reducible first | refine zA ?_ | refine zB ?_ | refine zC ?_ | refine zD ?_ | refine zE ?_ | refine zF ?_ | refine zK ?_ | refine zL ?_ | refine zM ?_ | refine zN ?_ | refine zO ?_ | refine zP ?_ | refine zQ (by decide) ?_ | refine zR ?_ | refine zS ?_ | refine zT ?_ | refine zX ?_) | ((with_reducible refine zY (t := ?_) ?hc (fun h => ?_) (fun h => ?_)); (case hc => rfl); all_goals (try simp [go_sem, hle, hne, hlt', h46', hw] at h); all_goals try omega) | ((with_reducible first | refine zZ ?_ | refine zd ?_ | refine ze ?_); intro K hK; simp [go_sem, hle, hne, hlt', h46', hw]; (try simp (disch := omega) only [wrap_i64, okRefs, eq_self, true_and]); (first | apply hK | ((first | ((try refine .inl ?_); refine ⟨_, by (try intro hc); (repeat' first | exact f128s | exact hc | with_reducible refine And.intro ?_ ?_ | simp [go_sem, hle, hne, hlt', h46', hw]); first | done | omega, ?_⟩) | refine .inr ⟨_, by (try intro hc); (repeat' first | exact f128s | exact hc | with_reducible refine And.intro ?_ ?_ | simp [go_sem, hle, hne, hlt', h46', hw]); first | done | omega, ?_⟩); (first | refine hK _ ?_ | refine hK _ _ ?_ | (refine ⟨by simp [go_sem, hle, hne, hlt', h46', hw], ?_⟩; first | refine hK _ ?_ | refine hK _ _ ?_ | refine ⟨by simp [go_sem, hle, hne, hlt', h46', hw], hK _ _ ?_⟩))) | refine ⟨.one (.one (.bool false)), by simp [go_sem, hle, hne, hlt', h46', hw], hK _ _ ?_⟩ | refine ⟨by first | omega | (simp [appendOk, flatEls, hle, hne, hlt', h46', hw]; first | done | omega), ?_⟩ | refine ⟨hK _ ?_, fun h => ?_⟩ | refine ⟨?_, ?_⟩); all_goals ((try apply hK); clear hK K))
          simp [go_sem, hf]
        | true =>
          rw [hw] at f128s
          repeat' first | (with_reducible first | refine zA ?_ | refine zB ?_ | refine zC ?_ | refine zD ?_ | refine zE ?_ | refine zF ?_ | refine zK ?_ | refine zL ?_ | refine zM ?_ | refine zN ?_ | refine zO ?_ | refine zP ?_ | refine zQ (by decide) ?_ | refine zR ?_ | refine zS ?_ | refine zT ?_ | refine zX ?_) | ((with_reducible refine zY (t := ?_) ?hc (fun h => ?_) (fun h => ?_)); (case hc => rfl); all_goals (try simp [go_sem, hle, hne, hlt', h46', hw] at h); all_goals try omega) | ((with_reducible first | refine zZ ?_ | refine zd ?_ | refine ze ?_); intro K hK; simp [go_sem, hle, hne, hlt', h46', hw]; (try simp (disch := omega) only [wrap_i64, okRefs, eq_self, true_and]); (first | apply hK | ((first | ((try refine .inl ?_); refine ⟨_, by (try intro hc); (repeat' first | exact f128s | exact hc | with_reducible refine And.intro ?_ ?_ | simp [go_sem, hle, hne, hlt', h46', hw]); first | done | omega, ?_⟩) | refine .inr ⟨_, by (try intro hc); (repeat' first | exact f128s | exact hc | with_reducible refine And.intro ?_ ?_ | simp [go_sem, hle, hne, hlt', h46', hw]); first | done | omega, ?_⟩); (first | refine hK _ ?_ | refine hK _ _ ?_ | (refine ⟨by simp [go_sem, hle, hne, hlt', h46', hw], ?_⟩; first | refine hK _ ?_ | refine hK _ _ ?_ | refine ⟨by simp [go_sem, hle, hne, hlt', h46', hw], hK _ _ ?_⟩))) | refine ⟨.one (.one (.bool false)), by simp [go_sem, hle, hne, hlt', h46', hw], hK _ _ ?_⟩ | refine ⟨by first | omega | (simp [appendOk, flatEls, hle, hne, hlt', h46', hw]; first | done | omega), ?_⟩ | refine ⟨hK _ ?_, fun h => ?_⟩ | refine ⟨?_, ?_⟩); all_goals ((try apply hK); clear hK K))
          refine loopQ_normal (n - 1) _ (by omega) ⟨i + 1, i + 1, by omega, .inl ⟨by omega, by omega, by simp, pre ++ [(L.drop f).take (i - f)], ?_, ?_⟩, by omega, rfl⟩ ?_
          · rw [List.append_assoc, List.singleton_append, ← hpl]
            exact hpre
          · rw [List.map_append, List.all_append, hall, List.map_cons, List.all_cons, ← hpc, ← hex, hw]
            rfl
          · simp [go_sem]
      · have h46' : ¬ (s[i].toNat : Int) = 46 := by
          rw [hbi]
          intro e
          apply h46
          have : L[i].toNat = 46 := by omega
          exact UInt8.toNat_inj.1 this
        repeat' first | (with_reducible first | refine zA ?_ | refine zB ?_ | refine zC ?_ | refine zD ?_ | refine zE ?_ | refine zF ?_ | refine zK ?_ | refine zL ?_ | refine zM ?_ | refine zN ?_ | refine zO ?_ | refine zP ?_ | refine zQ (by decide) ?_ | refine zR ?_ | refine zS ?_ | refine zT ?_ | refine zX ?_) | ((with_reducible refine zY (t := ?_) ?hc (fun h => ?_) (fun h => ?_)); (case hc => rfl); all_goals (try simp [go_sem, hle, hne, hlt', h46'] at h); all_goals try omega) | ((with_reducible first | refine zZ ?_ | refine zd ?_ | refine ze ?_); intro K hK; simp [go_sem, hle, hne, hlt', h46']; (try simp (disch := omega) only [wrap_i64, okRefs, eq_self, true_and]); (first | apply hK | refine ⟨by first | omega | (simp [appendOk, flatEls, hle, hne, hlt', h46']; first | done | omega), ?_⟩ | refine ⟨hK _ ?_, fun h => ?_⟩ | refine ⟨?_, ?_⟩); all_goals ((try apply hK); clear hK K))
        refine loopQ_normal (n - 1) _ (by omega) ⟨i + 1, f, by omega, .inl ⟨by omega, by omega, ?_, pre, hpre, hall⟩, hfl, rfl⟩ ?_
        · have e1 : i + 1 - f = (i - f) + 1 := by omega
          have hlen : i - f < (L.drop f).length := by rw [List.length_drop]; omega
          rw [e1, List.take_succ_eq_append_getElem hlen]
          simp only [List.mem_append, List.mem_singleton, not_or]
          refine ⟨hno, ?_⟩
          rw [List.getElem_drop]
          have e2 : f + (i - f) = i := by omega
          simp only [e2]
          exact fun e => h46 e.symm
        · simp [go_sem]
    · have hie : i = L.length := by omega
      have heq : (i : Int) = (s.size : Int) := by omega
      have hext : s.extract f i = s.extract f s.size := by congr 1; omega
      have hde : L.drop f = (L.drop f).take (i - f) := by
        rw [List.take_of_length_le (by rw [List.length_drop]; omega)]
      have hpl : pieceL (L.drop f) = [(L.drop f).take (i - f)] := by
        conv => lhs; rw [hde]
        exact pieceL_no hno
      have f128s := f128 (s.extract f i)
      cases hw : isWord (s.extract f i) with
      | false =>
        rw [hw] at f128s
        have hf : isPath s = false := by
          unfold isPath
          rw [hpB, hpre, hpl, List.map_append, List.map_cons, List.all_append, List.all_cons, ← hpc, ← hex, hw]
          simp
        rw [hext] at f128s
        repeat' first | (with_reducible first | refine zA ?_ | refine zB ?_ | refine zC ?_ | refine zD ?_ | refine zE ?_ | refine zF ?_ | refine zK ?_ | refine zL ?_ | refine zM ?_ | refine zN ?_ | refine zO ?_ | refine zP ?_ | refine zQ (by decide) ?_ | refine zR ?_ | refine zS ?_ | refine zT ?_ | refine zX ?_) | ((with_reducible refine zY (t := ?_) ?hc (fun h => ?_) (fun h => ?_)); (case hc => rfl); all_goals (try simp [go_sem, hle, heq, hw] at h); all_goals try omega) | ((with_reducible first | refine zZ ?_ | refine zd ?_ | refine ze ?_); intro K hK; simp [go_sem, hle, heq, hw]; (try simp (disch := omega) only [wrap_i64, okRefs, eq_self, true_and]); (first | apply hK | ((first | ((try refine .inl ?_); refine ⟨_, by (try intro hc); (repeat' first | exact f128s | exact hc | with_reducible refine And.intro ?_ ?_ | simp [go_sem, hle, heq, hw]); first | done | omega, ?_⟩) | refine .inr ⟨_, by (try intro hc); (repeat' first | exact f128s | exact hc | with_reducible refine And.intro ?_ ?_ | simp [go_sem, hle, heq, hw]); first | done | omega, ?_⟩); (first | refine hK _ ?_ | refine hK _ _ ?_ | (refine ⟨by simp [go_sem, hle, heq, hw], ?_⟩; first | refine hK _ ?_ | refine hK _ _ ?_ | refine ⟨by simp [go_sem, hle, heq, hw], hK _ _ ?_⟩))) | refine ⟨.one (.one (.bool false)), by simp [go_sem, hle, heq, hw], hK _ _ ?_⟩ | refine ⟨by first | omega | (simp [appendOk, flatEls, hle, heq, hw]; first | done | omega), ?_⟩ | refine ⟨hK _ ?_, fun h => ?_⟩ | refine ⟨?_, ?_⟩); all_goals ((try apply hK); clear hK K))
        simp [go_sem, hf]
      | true =>
        rw [hw] at f128s
        rw [hext] at f128s
        repeat' first | (with_reducible first | refine zA ?_ | refine zB ?_ | refine zC ?_ | refine zD ?_ | refine zE ?_ | refine zF ?_ | refine zK ?_ | refine zL ?_ | refine zM ?_ | refine zN ?_ | refine zO ?_ | refine zP ?_ | refine zQ (by decide) ?_ | refine zR ?_ | refine zS ?_ | refine zT ?_ | refine zX ?_) | ((with_reducible refine zY (t := ?_) ?hc (fun h => ?_) (fun h => ?_)); (case hc => rfl); all_goals (try simp [go_sem, hle, heq, hw] at h); all_goals try omega) | ((with_reducible first | refine zZ ?_ | refine zd ?_ | refine ze ?_); intro K hK; simp [go_sem, hle, heq, hw]; (try simp (disch := omega) only [wrap_i64, okRefs, eq_self, true_and]); (first | apply hK | ((first | ((try refine .inl ?_); refine ⟨_, by (try intro hc); (repeat' first | exact f128s | exact hc | with_reducible refine And.intro ?_ ?_ | simp [go_sem, hle, heq, hw]); first | done | omega, ?_⟩) | refine .inr ⟨_, by (try intro hc); (repeat' first | exact f128s | exact hc | with_reducible refine And.intro ?_ ?_ | simp [go_sem, hle, heq, hw]); first | done | omega, ?_⟩); (first | refine hK _ ?_ | refine hK _ _ ?_ | (refine ⟨by simp [go_sem, hle, heq, hw], ?_⟩; first | refine hK _ ?_ | refine hK _ _ ?_ | refine ⟨by simp [go_sem, hle, heq, hw], hK _ _ ?_⟩))) | refine ⟨.one (.one (.bool false)), by simp [go_sem, hle, heq, hw], hK _ _ ?_⟩ | refine ⟨by first | omega | (simp [appendOk, flatEls, hle, heq, hw]; first | done | omega), ?_⟩ | refine ⟨hK _ ?_, fun h => ?_⟩ | refine ⟨?_, ?_⟩); all_goals ((try apply hK); clear hK K))
        refine loopQ_normal (n - 1) _ (by omega) ⟨i + 1, i + 1, by omega, .inr ⟨by omega, ?_⟩, by omega, rfl⟩ ?_
        · rw [hpB, hpre, hpl, List.map_append, List.map_cons, List.all_append, hall, List.all_cons, ← hpc, ← hex, hw]
          rfl
        · simp [go_sem]
          omega
  · have hgt : ¬ (i : Int) ≤ (s.size : Int) := by omega
    repeat' first | (with_reducible first | refine zA ?_ | refine zB ?_ | refine zC ?_ | refine zD ?_ | refine zE ?_ | refine zF ?_ | refine zK ?_ | refine zL ?_ | refine zM ?_ | refine zN ?_ | refine zO ?_ | refine zP ?_ | refine zQ (by decide) ?_ | refine zR ?_ | refine zS ?_ | refine zT ?_ | refine zX ?_) | ((with_reducible refine zY (t := ?_) ?hc (fun h => ?_) (fun h => ?_)); (case hc => rfl); all_goals (try simp [go_sem, hgt] at h); all_goals try omega) | ((with_reducible first | refine zZ ?_ | refine zd ?_ | refine ze ?_); intro K hK; simp [go_sem, hgt]; (try simp (disch := omega) only [wrap_i64, okRefs, eq_self, true_and]); (first | apply hK | refine ⟨by first | omega | (simp [appendOk, flatEls, hgt]; first | done | omega), ?_⟩ | refine ⟨hK _ ?_, fun h => ?_⟩ | refine ⟨?_, ?_⟩); all_goals ((try apply hK); clear hK K))
    have : decide ((s.size : Int) ≤ 50) = decide (s.size ≤ 50) := by
      by_cases h : s.size ≤ 50
      · rw [decide_eq_true h, decide_eq_true (by omega)]
      · rw [decide_eq_false h, decide_eq_false (by omega)]
    simp [go_sem, isPath, hall]
    omega
end Go.Av
namespace Go.Av
open Go Go.RowKit Go.Proofs
set_option maxRecDepth 8000
structure Fld where
  name : ByteArray
  kind : Int
  lo : Int
  hi : Int
structure Dff where
  x : Int
  y : Int
  c : Int
structure Dcl where
  name : ByteArray
  fields : List Fld
  first : Int
  diffs : List Dff
  equals : List (Int × Int)
structure Edg where
  from_ : Int
  act : Inter
  to : Int
  again : Bool
structure Tmo where
  state : Int
  ticks : Int
  els : Int
structure Glob where
  name : ByteArray
  roles : List ByteArray
  decls : List Dcl
  states : Int
  start : Int
  end_ : Int
  edges : List Edg
  timeouts : List Tmo
def encF (f : Fld) : List DV := [.str f.name, .int .i64 f.kind, .int .i64 f.lo, .int .i64 f.hi]
def encDf (d : Dff) : List DV := [.int .i64 d.x, .int .i64 d.y, .int .i64 d.c]
def encEq (e : Int × Int) : List DV := [.int .i64 e.1, .int .i64 e.2]
def encD (d : Dcl) : List DV := [.str d.name, .sl (d.fields.map encF), .int .i64 d.first, .sl (d.diffs.map encDf), .sl (d.equals.map encEq)]
def encEd (x : Edg) : List DV := [.int .i64 x.from_, .int .i64 x.act.from_, .int .i64 x.act.to, .int .i64 x.act.label, .int .i64 x.to, .bool x.again]
def encT (t : Tmo) : List DV := [.int .i64 t.state, .int .i64 t.ticks, .int .i64 t.els]
def encG (g : Glob) : List DV := [.str g.name, .sl (g.roles.map encS), .sl (g.decls.map encD), .int .i64 g.states, .int .i64 g.start, .int .i64 g.end_, .sl (g.edges.map encEd), .sl (g.timeouts.map encT)]
def goodSort (f : Fld) : Bool :=
  if f.kind = 1 then decide (-1000 ≤ f.lo) && decide (f.lo ≤ f.hi) && decide (f.hi ≤ 1000)
  else if f.kind = 2 then decide (0 ≤ f.lo) && decide (f.lo ≤ f.hi) && decide (f.hi ≤ 40)
  else false
def allF (l : List Dcl) : List Fld := l.flatMap Dcl.fields
def okDff (n : Nat) (d : Dff) : Bool := decide (-1 ≤ d.x) && decide (-1 ≤ d.y) && decide (d.x < n) && decide (d.y < n) && decide (-20000 ≤ d.c) && decide (d.c ≤ 20000)
def isText (all : List Fld) (x : Int) : Bool := decide (0 ≤ x) && decide (x < all.length) && match all[x.toNat]? with
  | some f => decide (f.kind = 2)
  | none => false
def okGuard (all : List Fld) (d : Dcl) : Bool := decide (d.diffs.length ≤ 20) && decide (d.equals.length ≤ 20) && d.diffs.all (okDff all.length) && d.equals.all fun e => isText all e.1 && isText all e.2
theorem f137 (k lo hi : Int) (nm : ByteArray) : Impl Tryz.prog 137 [.ag [.int .i64 k, .int .i64 lo, .int .i64 hi]] (.one (.one (.bool (goodSort ⟨nm, k, lo, hi⟩)))) := by
  refine impl_z Tryz.func137 z137 Tryz.ntmps137 (by simp) ?_
  simp only [c137, slotsOf]
  by_cases h1 : k = 1
  · skip
    repeat' first | (with_reducible first | refine zA ?_ | refine zB ?_ | refine zC ?_ | refine zD ?_ | refine zF ?_ | refine zK ?_ | refine zL ?_ | refine zN ?_ | refine zO ?_ | refine zT ?_ | refine zX ?_) | ((with_reducible refine zY (t := ?_) ?hc (fun h => ?_) (fun h => ?_)); (case hc => rfl); all_goals (try simp [go_sem, h1] at h); all_goals try omega) | ((with_reducible first | refine zZ ?_ | refine zd ?_ | refine ze ?_); intro K hK; simp [go_sem, h1]; (try simp (disch := omega) only [wrap_i64, okRefs, eq_self, true_and]); (first | apply hK | refine ⟨by first | omega | (simp [appendOk, flatEls, h1]; first | done | omega), ?_⟩ | refine ⟨hK _ ?_, fun h => ?_⟩ | refine ⟨?_, ?_⟩); all_goals ((try apply hK); clear hK K))
    simp [go_sem, goodSort, h1]
  · by_cases h2 : k = 2
    · skip
      repeat' first | (with_reducible first | refine zA ?_ | refine zB ?_ | refine zC ?_ | refine zD ?_ | refine zF ?_ | refine zK ?_ | refine zL ?_ | refine zN ?_ | refine zO ?_ | refine zT ?_ | refine zX ?_) | ((with_reducible refine zY (t := ?_) ?hc (fun h => ?_) (fun h => ?_)); (case hc => rfl); all_goals (try simp [go_sem, h1, h2] at h); all_goals try omega) | ((with_reducible first | refine zZ ?_ | refine zd ?_ | refine ze ?_); intro K hK; simp [go_sem, h1, h2]; (try simp (disch := omega) only [wrap_i64, okRefs, eq_self, true_and]); (first | apply hK | refine ⟨by first | omega | (simp [appendOk, flatEls, h1, h2]; first | done | omega), ?_⟩ | refine ⟨hK _ ?_, fun h => ?_⟩ | refine ⟨?_, ?_⟩); all_goals ((try apply hK); clear hK K))
      simp [go_sem, goodSort, h1, h2]
    · skip
      repeat' first | (with_reducible first | refine zA ?_ | refine zB ?_ | refine zC ?_ | refine zD ?_ | refine zF ?_ | refine zK ?_ | refine zL ?_ | refine zN ?_ | refine zO ?_ | refine zT ?_ | refine zX ?_) | ((with_reducible refine zY (t := ?_) ?hc (fun h => ?_) (fun h => ?_)); (case hc => rfl); all_goals (try simp [go_sem, h1, h2] at h); all_goals try omega) | ((with_reducible first | refine zZ ?_ | refine zd ?_ | refine ze ?_); intro K hK; simp [go_sem, h1, h2]; (try simp (disch := omega) only [wrap_i64, okRefs, eq_self, true_and]); (first | apply hK | refine ⟨by first | omega | (simp [appendOk, flatEls, h1, h2]; first | done | omega), ?_⟩ | refine ⟨hK _ ?_, fun h => ?_⟩ | refine ⟨?_, ?_⟩); all_goals ((try apply hK); clear hK K))
      simp [go_sem, goodSort, h1, h2]
theorem f133 (l : List Dcl) (hl : l.length ≤ 1000) (hf : ∀ d ∈ l, d.fields.length ≤ 100000) : Impl Tryz.prog 133 [.one (.sl (l.map encD))] (.one (.one (.ow 4 ((allF l).map encF)))) := by
  refine impl_z Tryz.func133 z133 Tryz.ntmps133 (by simp) ?_
  simp only [c133, slotsOf]
  repeat' first | (with_reducible first | refine zA ?_ | refine zB ?_ | refine zC ?_ | refine zD ?_ | refine zE ?_ | refine zF ?_ | refine zK ?_ | refine zL ?_ | refine zM ?_ | refine zN ?_ | refine zO ?_ | refine zP ?_ | refine zQ (by decide) ?_ | refine zR ?_ | refine zS ?_ | refine zT ?_ | refine zX ?_) | ((with_reducible refine zY (t := ?_) ?hc (fun h => ?_) (fun h => ?_)); (case hc => rfl); all_goals (try simp [go_sem] at h); all_goals try omega) | ((with_reducible first | refine zZ ?_ | refine zd ?_ | refine ze ?_); intro K hK; simp [go_sem]; (try simp (disch := omega) only [wrap_i64, okRefs, eq_self, true_and]); (first | apply hK | refine ⟨by first | omega | (simp [appendOk, flatEls]; first | done | omega), ?_⟩ | refine ⟨hK _ ?_, fun h => ?_⟩ | refine ⟨?_, ?_⟩); all_goals ((try apply hK); clear hK K))
  refine awp_loop (fun n e => ∃ k : Nat, k + n = l.length ∧ e = [(8, .sv (.one (.int .i64 k))), (7, .sv (.one (.int .i64 l.length))), (6, .sv (.one (.sl (l.map encD)))), (3, .sv (.one (.ow 4 ((allF (l.take k)).map encF)))), (0, .sv (.one (.sl (l.map encD))))]) l.length _ ⟨0, by simp, rfl⟩ (by simp [go_sem, allF]) ?_
  rintro n e ⟨k, hk, rfl⟩
  by_cases hlt : k < l.length
  · have hfk := hf l[k] (List.getElem_mem hlt)
    have hall : (allF (l.take k)).length ≤ k * 100000 := by
      have : ∀ (m : List Dcl), (∀ d ∈ m, d.fields.length ≤ 100000) → (allF m).length ≤ m.length * 100000 := by
        intro m
        induction m with
        | nil => simp [allF]
        | cons d m ih =>
          intro h
          have h1 := ih fun x hx => h x (by simp [hx])
          have h2 := h d (by simp)
          simp only [allF, List.flatMap_cons, List.length_append, List.length_cons] at h1 ⊢
          omega
      have h1 := this (l.take k) fun d hd => hf d (List.mem_of_mem_take hd)
      have h2 : (l.take k).length ≤ k := List.length_take_le _ _
      exact Nat.le_trans h1 (Nat.mul_le_mul_right _ h2)
    have hs : allF (l.take (k + 1)) = allF (l.take k) ++ l[k].fields := by
      unfold allF
      rw [List.take_succ_eq_append_getElem hlt, List.flatMap_append]
      simp
    repeat' first | (with_reducible first | refine zA ?_ | refine zB ?_ | refine zC ?_ | refine zD ?_ | refine zE ?_ | refine zF ?_ | refine zK ?_ | refine zL ?_ | refine zM ?_ | refine zN ?_ | refine zO ?_ | refine zP ?_ | refine zQ (by decide) ?_ | refine zR ?_ | refine zS ?_ | refine zT ?_ | refine zX ?_) | ((with_reducible refine zY (t := ?_) ?hc (fun h => ?_) (fun h => ?_)); (case hc => rfl); all_goals (try simp [go_sem, hlt, encD] at h); all_goals try omega) | ((with_reducible first | refine zZ ?_ | refine zd ?_ | refine ze ?_); intro K hK; simp [go_sem, hlt, encD]; (try simp (disch := omega) only [wrap_i64, okRefs, eq_self, true_and]); (first | apply hK | refine ⟨by first | omega | (simp [appendOk, flatEls, hlt, encD, maxLen, DV.flat, encF]; first | done | omega), ?_⟩ | refine ⟨hK _ ?_, fun h => ?_⟩ | refine ⟨?_, ?_⟩); all_goals ((try apply hK); clear hK K))
    refine loopQ_normal (n - 1) _ (by omega) ⟨k + 1, by omega, rfl⟩ ?_
    simp [go_sem, hs]
  · have hkl : l.take k = l := List.take_of_length_le (by omega)
    repeat' first | (with_reducible first | refine zA ?_ | refine zB ?_ | refine zC ?_ | refine zD ?_ | refine zE ?_ | refine zF ?_ | refine zK ?_ | refine zL ?_ | refine zM ?_ | refine zN ?_ | refine zO ?_ | refine zP ?_ | refine zQ (by decide) ?_ | refine zR ?_ | refine zS ?_ | refine zT ?_ | refine zX ?_) | ((with_reducible refine zY (t := ?_) ?hc (fun h => ?_) (fun h => ?_)); (case hc => rfl); all_goals (try simp [go_sem, hlt, hkl] at h); all_goals try omega) | ((with_reducible first | refine zZ ?_ | refine zd ?_ | refine ze ?_); intro K hK; simp [go_sem, hlt, hkl]; (try simp (disch := omega) only [wrap_i64, okRefs, eq_self, true_and]); (first | apply hK | refine ⟨by first | omega | (simp [appendOk, flatEls, hlt, hkl]; first | done | omega), ?_⟩ | refine ⟨hK _ ?_, fun h => ?_⟩ | refine ⟨?_, ?_⟩); all_goals ((try apply hK); clear hK K))
    simp [go_sem]
end Go.Av
namespace Go.Proofs.YtpdfolkoejbbgaaGreatDoor
open Go.ChangeShapes Go.WideShapes Go.ChangeAt Go.RowKit Go.Av
set_option maxRecDepth 100000
theorem Tryz.own : ownKnob Tryz.prog.godebug = none := by kernel_rfl
theorem Tryz.laidOut : laidOutB Tryz.prog = true := by kernel_rfl
theorem int_ofB {n : Nat} {t : TypeId} {k : IntKind} {l : List DV} (hu : Tryz.prog.underlying t = some (.int k)) (h : TyLB Tryz.prog (n + 1) t l) : ∃ m, l = [.int k m] ∧ (Lit.int k m).wf = true := by
  unfold TyLB at h
  rw [hu] at h
  obtain ⟨m, hm, hw⟩ := h
  exact ⟨m, hm, hw⟩
theorem bool_ofB {n : Nat} {t : TypeId} {l : List DV} (hu : Tryz.prog.underlying t = some .bool) (h : TyLB Tryz.prog (n + 1) t l) : ∃ m, l = [.bool m] := by
  unfold TyLB at h
  rw [hu] at h
  exact h
theorem str_ofB {n : Nat} {t : TypeId} {l : List DV} (hu : Tryz.prog.underlying t = some .string) (h : TyLB Tryz.prog (n + 1) t l) : ∃ m, l = [.str m] ∧ m.size ≤ reachBytes := by
  unfold TyLB at h
  rw [hu] at h
  exact h
theorem slice_ofB {n : Nat} {t e : TypeId} {l : List DV} (hu : Tryz.prog.underlying t = some (.slice e)) (h : TyLB Tryz.prog (n + 1) t l) : ∃ els : List (List DV), l = [.sl els] ∧ els.length ≤ reachBytes ∧ ∀ el ∈ els, TyLB Tryz.prog n e el := by
  unfold TyLB at h
  rw [hu] at h
  exact h
theorem list_ofB {α : Type} {enc : α → List DV} {p : α → Prop} : ∀ (els : List (List DV)), (∀ el ∈ els, ∃ x, el = enc x ∧ p x) → ∃ L : List α, els = L.map enc ∧ ∀ x ∈ L, p x
  | [], _ => ⟨[], rfl, by simp⟩
  | e :: els, h => by
    obtain ⟨x, rfl, hx⟩ := h e (by simp)
    obtain ⟨L, rfl, hL⟩ := list_ofB els fun el hel => h el (by simp [hel])
    exact ⟨x :: L, rfl, by simpa using ⟨hx, hL⟩⟩
theorem slist_ofB {α : Type} {n : Nat} {t e : TypeId} {l : List DV} {enc : α → List DV} {p : α → Prop} (hu : Tryz.prog.underlying t = some (.slice e)) (h : TyLB Tryz.prog (n + 1) t l) (he : ∀ el, TyLB Tryz.prog n e el → ∃ x, el = enc x ∧ p x) :
    ∃ L : List α, l = [.sl (L.map enc)] ∧ L.length ≤ reachBytes ∧ ∀ x ∈ L, p x := by
  obtain ⟨els, rfl, hl, hel⟩ := slice_ofB hu h
  obtain ⟨L, rfl, hL⟩ := list_ofB (enc := enc) (p := p) els fun el h => he el (hel el h)
  exact ⟨L, rfl, by simpa using hl, hL⟩
theorem inter_ofB {n : Nat} {l : List DV} (h : TyLB Tryz.prog (n + 2) 52 l) : ∃ x : Inter, l = encI x := by
  unfold TyLB at h
  rw [Tryz.underlying52] at h
  simp only [TyFB] at h
  obtain ⟨l1, l2, rfl, h1, l3, l4, rfl, h2, l5, l6, rfl, h3, rfl⟩ := h
  obtain ⟨a, rfl, _⟩ := int_ofB Tryz.underlying3 h1
  obtain ⟨b, rfl, _⟩ := int_ofB Tryz.underlying3 h2
  obtain ⟨c, rfl, _⟩ := int_ofB Tryz.underlying3 h3
  exact ⟨⟨a, b, c⟩, rfl⟩
theorem inters_ofB {n : Nat} {l : List DV} (h : TyLB Tryz.prog (n + 3) 28 l) : ∃ L : List Inter, l = [.sl (L.map encI)] ∧ L.length ≤ reachBytes := by
  obtain ⟨L, rfl, hl, _⟩ := slist_ofB (enc := encI) (p := fun _ => True) Tryz.underlying28 h fun el h => by
    obtain ⟨x, hx⟩ := inter_ofB h
    exact ⟨x, hx, trivial⟩
  exact ⟨L, rfl, hl⟩
theorem role_ofB {n : Nat} {l : List DV} (h : TyLB Tryz.prog (n + 1) 9 l) : ∃ x : ByteArray, l = encS x := by
  obtain ⟨s, rfl, _⟩ := str_ofB Tryz.underlying9 h
  exact ⟨s, rfl⟩
theorem fld_ofB {n : Nat} {l : List DV} (h : TyLB Tryz.prog (n + 3) 123 l) : ∃ x : Fld, l = encF x := by
  unfold TyLB at h
  rw [Tryz.underlying123] at h
  simp only [TyFB] at h
  obtain ⟨l1, l2, rfl, h1, l3, l4, rfl, h2, rfl⟩ := h
  obtain ⟨a, rfl, _⟩ := str_ofB Tryz.underlying9 h1
  unfold TyLB at h2
  rw [Tryz.underlying121] at h2
  simp only [TyFB] at h2
  obtain ⟨l5, l6, rfl, h3, l7, l8, rfl, h4, l9, l10, rfl, h5, rfl⟩ := h2
  obtain ⟨b, rfl, _⟩ := int_ofB Tryz.underlying3 h3
  obtain ⟨c, rfl, _⟩ := int_ofB Tryz.underlying3 h4
  obtain ⟨d, rfl, _⟩ := int_ofB Tryz.underlying3 h5
  exact ⟨⟨a, b, c, d⟩, rfl⟩
theorem dff_ofB {n : Nat} {l : List DV} (h : TyLB Tryz.prog (n + 2) 126 l) : ∃ x : Dff, l = encDf x := by
  unfold TyLB at h
  rw [Tryz.underlying126] at h
  simp only [TyFB] at h
  obtain ⟨l1, l2, rfl, h1, l3, l4, rfl, h2, l5, l6, rfl, h3, rfl⟩ := h
  obtain ⟨a, rfl, _⟩ := int_ofB Tryz.underlying3 h1
  obtain ⟨b, rfl, _⟩ := int_ofB Tryz.underlying3 h2
  obtain ⟨c, rfl, _⟩ := int_ofB Tryz.underlying3 h3
  exact ⟨⟨a, b, c⟩, rfl⟩
theorem eq_ofB {n : Nat} {l : List DV} (h : TyLB Tryz.prog (n + 2) 61 l) : ∃ x : Int × Int, l = encEq x := by
  unfold TyLB at h
  rw [Tryz.underlying61] at h
  obtain ⟨els, rfl, hl, hel⟩ := h
  match els, hl, hel with
  | [x, y], _, hel =>
    obtain ⟨a, rfl, _⟩ := int_ofB Tryz.underlying3 (hel x (by simp))
    obtain ⟨b, rfl, _⟩ := int_ofB Tryz.underlying3 (hel y (by simp))
    exact ⟨(a, b), rfl⟩
def DclB (d : Dcl) : Prop := d.name.size ≤ 1000000000000000 ∧ d.fields.length ≤ 1000000000000000 ∧ d.diffs.length ≤ 1000000000000000 ∧ d.equals.length ≤ 1000000000000000
theorem reach_small {n : Nat} (h : n ≤ reachBytes) : n ≤ 1000000000000000 := Nat.le_trans h (by decide)
theorem dcl_ofB {n : Nat} {l : List DV} (h : TyLB Tryz.prog (n + 5) 71 l) : ∃ x : Dcl, l = encD x ∧ DclB x := by
  unfold TyLB at h
  rw [Tryz.underlying71] at h
  simp only [TyFB] at h
  obtain ⟨l1, l2, rfl, h1, l3, l4, rfl, h2, l5, l6, rfl, h3, l7, l8, rfl, h4, rfl⟩ := h
  obtain ⟨a, rfl, ha⟩ := str_ofB Tryz.underlying9 h1
  obtain ⟨F, rfl, hF, _⟩ := slist_ofB (enc := encF) (p := fun _ => True) Tryz.underlying66 h2 fun el h => (fld_ofB h).imp fun x hx => ⟨hx, trivial⟩
  obtain ⟨b, rfl, _⟩ := int_ofB Tryz.underlying3 h3
  unfold TyLB at h4
  rw [Tryz.underlying69] at h4
  simp only [TyFB] at h4
  obtain ⟨l9, l10, rfl, h5, l11, l12, rfl, h6, rfl⟩ := h4
  obtain ⟨D, rfl, hD, _⟩ := slist_ofB (enc := encDf) (p := fun _ => True) Tryz.underlying67 h5 fun el h => (dff_ofB h).imp fun x hx => ⟨hx, trivial⟩
  obtain ⟨E, rfl, hE, _⟩ := slist_ofB (enc := encEq) (p := fun _ => True) Tryz.underlying38 h6 fun el h => (eq_ofB h).imp fun x hx => ⟨hx, trivial⟩
  exact ⟨⟨a, F, b, D, E⟩, rfl, reach_small ha, reach_small hF, reach_small hD, reach_small hE⟩
theorem edg_ofB {n : Nat} {l : List DV} (h : TyLB Tryz.prog (n + 3) 65 l) : ∃ x : Edg, l = encEd x := by
  unfold TyLB at h
  rw [Tryz.underlying65] at h
  simp only [TyFB] at h
  obtain ⟨l1, l2, rfl, h1, l3, l4, rfl, h2, l5, l6, rfl, h3, l7, l8, rfl, h4, rfl⟩ := h
  obtain ⟨a, rfl, _⟩ := int_ofB Tryz.underlying3 h1
  obtain ⟨x, rfl⟩ := inter_ofB h2
  obtain ⟨b, rfl, _⟩ := int_ofB Tryz.underlying3 h3
  obtain ⟨c, rfl⟩ := bool_ofB Tryz.underlying4 h4
  exact ⟨⟨a, x, b, c⟩, rfl⟩
theorem tmo_ofB {n : Nat} {l : List DV} (h : TyLB Tryz.prog (n + 2) 118 l) : ∃ x : Tmo, l = encT x := by
  unfold TyLB at h
  rw [Tryz.underlying118] at h
  simp only [TyFB] at h
  obtain ⟨l1, l2, rfl, h1, l3, l4, rfl, h2, l5, l6, rfl, h3, rfl⟩ := h
  obtain ⟨a, rfl, _⟩ := int_ofB Tryz.underlying3 h1
  obtain ⟨b, rfl, _⟩ := int_ofB Tryz.underlying3 h2
  obtain ⟨c, rfl, _⟩ := int_ofB Tryz.underlying3 h3
  exact ⟨⟨a, b, c⟩, rfl⟩
structure GlobB (g : Glob) : Prop where
  decls : g.decls.length ≤ 1000000000000000
  decl : ∀ d ∈ g.decls, DclB d
  roles : g.roles.length ≤ 1000000000000000
  edges : g.edges.length ≤ 1000000000000000
  timeouts : g.timeouts.length ≤ 1000000000000000
theorem glob_ofB {n : Nat} {l : List DV} (h : TyLB Tryz.prog (n + 7) 27 l) : ∃ x : Glob, l = encG x ∧ GlobB x := by
  unfold TyLB at h
  rw [Tryz.underlying27] at h
  simp only [TyFB] at h
  obtain ⟨l1, l2, rfl, h1, l3, l4, rfl, h2, l5, l6, rfl, h3, l7, l8, rfl, h4, l9, l10, rfl, h5, l11, l12, rfl, h6, l13, l14, rfl, h7, l15, l16, rfl, h8, rfl⟩ := h
  obtain ⟨a, rfl, _⟩ := str_ofB Tryz.underlying9 h1
  obtain ⟨R, rfl, hR, _⟩ := slist_ofB (enc := encS) (p := fun _ => True) Tryz.underlying22 h2 fun el h => (role_ofB h).imp fun x hx => ⟨hx, trivial⟩
  obtain ⟨D, rfl, hD, hD'⟩ := slist_ofB (enc := encD) (p := DclB) Tryz.underlying23 h3 fun el h => dcl_ofB h
  obtain ⟨b, rfl, _⟩ := int_ofB Tryz.underlying3 h4
  obtain ⟨c, rfl, _⟩ := int_ofB Tryz.underlying3 h5
  obtain ⟨d, rfl, _⟩ := int_ofB Tryz.underlying3 h6
  obtain ⟨E, rfl, hE, _⟩ := slist_ofB (enc := encEd) (p := fun _ => True) Tryz.underlying24 h7 fun el h => (edg_ofB h).imp fun x hx => ⟨hx, trivial⟩
  obtain ⟨T, rfl, hT, _⟩ := slist_ofB (enc := encT) (p := fun _ => True) Tryz.underlying25 h8 fun el h => (tmo_ofB h).imp fun x hx => ⟨hx, trivial⟩
  exact ⟨⟨a, R, D, b, c, d, E, T⟩, rfl, reach_small hD, hD', reach_small hR, reach_small hE, reach_small hT⟩
end Go.Proofs.YtpdfolkoejbbgaaGreatDoor
