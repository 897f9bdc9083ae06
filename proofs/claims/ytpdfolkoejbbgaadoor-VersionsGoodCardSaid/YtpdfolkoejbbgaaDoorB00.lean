/- Part of a proof by symbolic walks on plain data. -/
import Derived.Test.YtpdfolkoejbbgaaDoorAvR
import Derived.Test.YtpdfolkoejbbgaaDoorProg
import Derived.Test.YtpdfolkoejbbgaaDoorC0
import Derived.Test.YtpdfolkoejbbgaaDoorF4
import Derived.Lib.Strings
import Derived.Lib.Slices
import Derived.Lib.Walk
import Derived.Lib.Bytealg
set_option linter.unusedVariables false
set_option linter.unusedSimpArgs false
set_option maxHeartbeats 4000000
namespace Go.Av
open Go Go.Proofs
@[go_sem] theorem ty_kindT_3 : kindT Tryd.prog 3 = some false := by kernel_rfl
@[go_sem] theorem ty_sizeT_3 : sizeT Tryd.prog 3 = some 1 := by kernel_rfl
@[go_sem] theorem ty_bytesT_3 : bytesT Tryd.prog 3 = some 8 := by kernel_rfl
@[go_sem] theorem ty_elT_3 : elT Tryd.prog 3 = none := by kernel_rfl
@[go_sem] theorem ty_arrT_3 : arrT Tryd.prog 3 = none := by kernel_rfl
@[go_sem] theorem ty_intT_3 : intT Tryd.prog 3 = some IntKind.i64 := by kernel_rfl
@[go_sem] theorem ty_zeroT_3 : zeroT Tryd.prog 3 = some [DV.int IntKind.i64 0] := by kernel_rfl
@[go_sem] theorem ty_placesT_3 : placesT Tryd.prog 3 = none := by kernel_rfl
@[go_sem] theorem ty_zero1_3 : zero1 Tryd.prog 3 = some (KV.ki IntKind.i64 0) := by kernel_rfl
@[go_sem] theorem ty_cmpT_3 : cmpT Tryd.prog 20 3 = some [(0, 0)] := by kernel_rfl
@[go_sem] theorem ty_kindT_4 : kindT Tryd.prog 4 = some false := by kernel_rfl
@[go_sem] theorem ty_sizeT_4 : sizeT Tryd.prog 4 = some 1 := by kernel_rfl
@[go_sem] theorem ty_bytesT_4 : bytesT Tryd.prog 4 = some 1 := by kernel_rfl
@[go_sem] theorem ty_elT_4 : elT Tryd.prog 4 = none := by kernel_rfl
@[go_sem] theorem ty_arrT_4 : arrT Tryd.prog 4 = none := by kernel_rfl
@[go_sem] theorem ty_boolT_4 : boolT Tryd.prog 4 = true := by kernel_rfl
@[go_sem] theorem ty_zeroT_4 : zeroT Tryd.prog 4 = some [DV.bool false] := by kernel_rfl
@[go_sem] theorem ty_placesT_4 : placesT Tryd.prog 4 = none := by kernel_rfl
@[go_sem] theorem ty_zero1_4 : zero1 Tryd.prog 4 = some (KV.kb false) := by kernel_rfl
@[go_sem] theorem ty_cmpT_4 : cmpT Tryd.prog 20 4 = some [(0, 1)] := by kernel_rfl
@[go_sem] theorem ty_kindT_5 : kindT Tryd.prog 5 = some false := by kernel_rfl
@[go_sem] theorem ty_sizeT_5 : sizeT Tryd.prog 5 = some 1 := by kernel_rfl
@[go_sem] theorem ty_bytesT_5 : bytesT Tryd.prog 5 = some 1 := by kernel_rfl
@[go_sem] theorem ty_elT_5 : elT Tryd.prog 5 = none := by kernel_rfl
@[go_sem] theorem ty_arrT_5 : arrT Tryd.prog 5 = none := by kernel_rfl
@[go_sem] theorem ty_intT_5 : intT Tryd.prog 5 = some IntKind.u8 := by kernel_rfl
@[go_sem] theorem ty_zeroT_5 : zeroT Tryd.prog 5 = some [DV.int IntKind.u8 0] := by kernel_rfl
@[go_sem] theorem ty_placesT_5 : placesT Tryd.prog 5 = none := by kernel_rfl
@[go_sem] theorem ty_zero1_5 : zero1 Tryd.prog 5 = some (KV.ki IntKind.u8 0) := by kernel_rfl
@[go_sem] theorem ty_cmpT_5 : cmpT Tryd.prog 20 5 = some [(0, 0)] := by kernel_rfl
@[go_sem] theorem ty_kindT_9 : kindT Tryd.prog 9 = some false := by kernel_rfl
@[go_sem] theorem ty_sizeT_9 : sizeT Tryd.prog 9 = some 1 := by kernel_rfl
@[go_sem] theorem ty_bytesT_9 : bytesT Tryd.prog 9 = some 16 := by kernel_rfl
@[go_sem] theorem ty_elT_9 : elT Tryd.prog 9 = none := by kernel_rfl
@[go_sem] theorem ty_arrT_9 : arrT Tryd.prog 9 = none := by kernel_rfl
@[go_sem] theorem ty_strT_9 : strT Tryd.prog 9 = true := by kernel_rfl
@[go_sem] theorem ty_zeroT_9 : zeroT Tryd.prog 9 = some [DV.str { data := #[] }] := by kernel_rfl
@[go_sem] theorem ty_placesT_9 : placesT Tryd.prog 9 = none := by kernel_rfl
@[go_sem] theorem ty_zero1_9 : zero1 Tryd.prog 9 = some (KV.ks { data := #[] }) := by kernel_rfl
@[go_sem] theorem ty_cmpT_9 : cmpT Tryd.prog 20 9 = some [(0, 2)] := by kernel_rfl
@[go_sem] theorem ty_kindT_21 : kindT Tryd.prog 21 = some false := by kernel_rfl
@[go_sem] theorem ty_sizeT_21 : sizeT Tryd.prog 21 = some 1 := by kernel_rfl
@[go_sem] theorem ty_bytesT_21 : bytesT Tryd.prog 21 = some 4 := by kernel_rfl
@[go_sem] theorem ty_elT_21 : elT Tryd.prog 21 = none := by kernel_rfl
@[go_sem] theorem ty_arrT_21 : arrT Tryd.prog 21 = none := by kernel_rfl
@[go_sem] theorem ty_intT_21 : intT Tryd.prog 21 = some IntKind.i32 := by kernel_rfl
@[go_sem] theorem ty_zeroT_21 : zeroT Tryd.prog 21 = some [DV.int IntKind.i32 0] := by kernel_rfl
@[go_sem] theorem ty_placesT_21 : placesT Tryd.prog 21 = none := by kernel_rfl
@[go_sem] theorem ty_zero1_21 : zero1 Tryd.prog 21 = some (KV.ki IntKind.i32 0) := by kernel_rfl
@[go_sem] theorem ty_cmpT_21 : cmpT Tryd.prog 20 21 = some [(0, 0)] := by kernel_rfl
@[go_sem] theorem ty_kindT_22 : kindT Tryd.prog 22 = some false := by kernel_rfl
@[go_sem] theorem ty_sizeT_22 : sizeT Tryd.prog 22 = some 1 := by kernel_rfl
@[go_sem] theorem ty_bytesT_22 : bytesT Tryd.prog 22 = some 24 := by kernel_rfl
@[go_sem] theorem ty_elT_22 : elT Tryd.prog 22 = some 9 := by kernel_rfl
@[go_sem] theorem ty_arrT_22 : arrT Tryd.prog 22 = none := by kernel_rfl
@[go_sem] theorem ty_zeroT_22 : zeroT Tryd.prog 22 = some [DV.nil] := by kernel_rfl
@[go_sem] theorem ty_placesT_22 : placesT Tryd.prog 22 = none := by kernel_rfl
@[go_sem] theorem ty_kindT_23 : kindT Tryd.prog 23 = some false := by kernel_rfl
@[go_sem] theorem ty_sizeT_23 : sizeT Tryd.prog 23 = some 1 := by kernel_rfl
@[go_sem] theorem ty_bytesT_23 : bytesT Tryd.prog 23 = some 24 := by kernel_rfl
@[go_sem] theorem ty_elT_23 : elT Tryd.prog 23 = some 58 := by kernel_rfl
@[go_sem] theorem ty_arrT_23 : arrT Tryd.prog 23 = none := by kernel_rfl
@[go_sem] theorem ty_zeroT_23 : zeroT Tryd.prog 23 = some [DV.nil] := by kernel_rfl
@[go_sem] theorem ty_placesT_23 : placesT Tryd.prog 23 = none := by kernel_rfl
@[go_sem] theorem ty_kindT_24 : kindT Tryd.prog 24 = some false := by kernel_rfl
@[go_sem] theorem ty_sizeT_24 : sizeT Tryd.prog 24 = some 1 := by kernel_rfl
@[go_sem] theorem ty_bytesT_24 : bytesT Tryd.prog 24 = some 24 := by kernel_rfl
@[go_sem] theorem ty_elT_24 : elT Tryd.prog 24 = some 42 := by kernel_rfl
@[go_sem] theorem ty_arrT_24 : arrT Tryd.prog 24 = none := by kernel_rfl
@[go_sem] theorem ty_zeroT_24 : zeroT Tryd.prog 24 = some [DV.nil] := by kernel_rfl
@[go_sem] theorem ty_placesT_24 : placesT Tryd.prog 24 = none := by kernel_rfl
@[go_sem] theorem ty_kindT_25 : kindT Tryd.prog 25 = some false := by kernel_rfl
@[go_sem] theorem ty_sizeT_25 : sizeT Tryd.prog 25 = some 1 := by kernel_rfl
@[go_sem] theorem ty_bytesT_25 : bytesT Tryd.prog 25 = some 24 := by kernel_rfl
@[go_sem] theorem ty_elT_25 : elT Tryd.prog 25 = some 75 := by kernel_rfl
@[go_sem] theorem ty_arrT_25 : arrT Tryd.prog 25 = none := by kernel_rfl
@[go_sem] theorem ty_zeroT_25 : zeroT Tryd.prog 25 = some [DV.nil] := by kernel_rfl
@[go_sem] theorem ty_placesT_25 : placesT Tryd.prog 25 = none := by kernel_rfl
@[go_sem] theorem ty_kindT_27 : kindT Tryd.prog 27 = some true := by kernel_rfl
@[go_sem] theorem ty_sizeT_27 : sizeT Tryd.prog 27 = some 8 := by kernel_rfl
@[go_sem] theorem ty_bytesT_27 : bytesT Tryd.prog 27 = some 136 := by kernel_rfl
@[go_sem] theorem ty_elT_27 : elT Tryd.prog 27 = none := by kernel_rfl
@[go_sem] theorem ty_arrT_27 : arrT Tryd.prog 27 = none := by kernel_rfl
@[go_sem] theorem ty_zeroT_27 : zeroT Tryd.prog 27 = some [DV.str { data := #[] }, DV.nil, DV.nil, DV.int IntKind.i64 0, DV.int IntKind.i64 0, DV.int IntKind.i64 0, DV.nil, DV.nil] := by kernel_rfl
@[go_sem] theorem ty_placesT_27 : placesT Tryd.prog 27 = some [(0, 1), (1, 1), (2, 1), (3, 1), (4, 1), (5, 1), (6, 1), (7, 1)] := by kernel_rfl
@[go_sem] theorem ty_fldT0_27 : fldT Tryd.prog 27 0 = some (0, 9) := by kernel_rfl
@[go_sem] theorem ty_fldT1_27 : fldT Tryd.prog 27 1 = some (1, 22) := by kernel_rfl
@[go_sem] theorem ty_fldT2_27 : fldT Tryd.prog 27 2 = some (2, 23) := by kernel_rfl
@[go_sem] theorem ty_fldT3_27 : fldT Tryd.prog 27 3 = some (3, 3) := by kernel_rfl
@[go_sem] theorem ty_fldT4_27 : fldT Tryd.prog 27 4 = some (4, 3) := by kernel_rfl
@[go_sem] theorem ty_fldT5_27 : fldT Tryd.prog 27 5 = some (5, 3) := by kernel_rfl
@[go_sem] theorem ty_fldT6_27 : fldT Tryd.prog 27 6 = some (6, 24) := by kernel_rfl
@[go_sem] theorem ty_fldT7_27 : fldT Tryd.prog 27 7 = some (7, 25) := by kernel_rfl
@[go_sem] theorem ty_kindT_30 : kindT Tryd.prog 30 = some false := by kernel_rfl
@[go_sem] theorem ty_sizeT_30 : sizeT Tryd.prog 30 = some 1 := by kernel_rfl
@[go_sem] theorem ty_bytesT_30 : bytesT Tryd.prog 30 = some 24 := by kernel_rfl
@[go_sem] theorem ty_elT_30 : elT Tryd.prog 30 = some 3 := by kernel_rfl
@[go_sem] theorem ty_arrT_30 : arrT Tryd.prog 30 = none := by kernel_rfl
@[go_sem] theorem ty_zeroT_30 : zeroT Tryd.prog 30 = some [DV.nil] := by kernel_rfl
@[go_sem] theorem ty_placesT_30 : placesT Tryd.prog 30 = none := by kernel_rfl
@[go_sem] theorem ty_kindT_31 : kindT Tryd.prog 31 = some false := by kernel_rfl
@[go_sem] theorem ty_sizeT_31 : sizeT Tryd.prog 31 = some 1 := by kernel_rfl
@[go_sem] theorem ty_bytesT_31 : bytesT Tryd.prog 31 = some 24 := by kernel_rfl
@[go_sem] theorem ty_elT_31 : elT Tryd.prog 31 = some 38 := by kernel_rfl
@[go_sem] theorem ty_arrT_31 : arrT Tryd.prog 31 = none := by kernel_rfl
@[go_sem] theorem ty_zeroT_31 : zeroT Tryd.prog 31 = some [DV.nil] := by kernel_rfl
@[go_sem] theorem ty_placesT_31 : placesT Tryd.prog 31 = none := by kernel_rfl
@[go_sem] theorem ty_kindT_32 : kindT Tryd.prog 32 = some false := by kernel_rfl
@[go_sem] theorem ty_sizeT_32 : sizeT Tryd.prog 32 = some 1 := by kernel_rfl
@[go_sem] theorem ty_bytesT_32 : bytesT Tryd.prog 32 = some 24 := by kernel_rfl
@[go_sem] theorem ty_elT_32 : elT Tryd.prog 32 = some 4 := by kernel_rfl
@[go_sem] theorem ty_arrT_32 : arrT Tryd.prog 32 = none := by kernel_rfl
@[go_sem] theorem ty_zeroT_32 : zeroT Tryd.prog 32 = some [DV.nil] := by kernel_rfl
@[go_sem] theorem ty_placesT_32 : placesT Tryd.prog 32 = none := by kernel_rfl
@[go_sem] theorem ty_kindT_34 : kindT Tryd.prog 34 = some true := by kernel_rfl
@[go_sem] theorem ty_sizeT_34 : sizeT Tryd.prog 34 = some 19 := by kernel_rfl
@[go_sem] theorem ty_bytesT_34 : bytesT Tryd.prog 34 = some 344 := by kernel_rfl
@[go_sem] theorem ty_elT_34 : elT Tryd.prog 34 = none := by kernel_rfl
@[go_sem] theorem ty_arrT_34 : arrT Tryd.prog 34 = none := by kernel_rfl
@[go_sem] theorem ty_zeroT_34 : zeroT Tryd.prog 34 = some [DV.str { data := #[] }, DV.nil, DV.nil, DV.int IntKind.i64 0, DV.int IntKind.i64 0, DV.int IntKind.i64 0, DV.nil, DV.nil, DV.str { data := #[] }, DV.nil, DV.nil, DV.int IntKind.i64 0, DV.int IntKind.i64 0, DV.int IntKind.i64 0, DV.nil, DV.nil, DV.nil, DV.nil, DV.nil] := by kernel_rfl
@[go_sem] theorem ty_placesT_34 : placesT Tryd.prog 34 = some [(0, 8), (8, 8), (16, 1), (17, 1), (18, 1)] := by kernel_rfl
@[go_sem] theorem ty_fldT0_34 : fldT Tryd.prog 34 0 = some (0, 27) := by kernel_rfl
@[go_sem] theorem ty_fldT1_34 : fldT Tryd.prog 34 1 = some (8, 27) := by kernel_rfl
@[go_sem] theorem ty_fldT2_34 : fldT Tryd.prog 34 2 = some (16, 30) := by kernel_rfl
@[go_sem] theorem ty_fldT3_34 : fldT Tryd.prog 34 3 = some (17, 31) := by kernel_rfl
@[go_sem] theorem ty_fldT4_34 : fldT Tryd.prog 34 4 = some (18, 32) := by kernel_rfl
@[go_sem] theorem ty_kindT_35 : kindT Tryd.prog 35 = some false := by kernel_rfl
@[go_sem] theorem ty_sizeT_35 : sizeT Tryd.prog 35 = some 1 := by kernel_rfl
@[go_sem] theorem ty_bytesT_35 : bytesT Tryd.prog 35 = some 8 := by kernel_rfl
@[go_sem] theorem ty_elT_35 : elT Tryd.prog 35 = none := by kernel_rfl
@[go_sem] theorem ty_arrT_35 : arrT Tryd.prog 35 = none := by kernel_rfl
@[go_sem] theorem ty_intT_35 : intT Tryd.prog 35 = some IntKind.i64 := by kernel_rfl
@[go_sem] theorem ty_zeroT_35 : zeroT Tryd.prog 35 = some [DV.int IntKind.i64 0] := by kernel_rfl
@[go_sem] theorem ty_placesT_35 : placesT Tryd.prog 35 = none := by kernel_rfl
@[go_sem] theorem ty_zero1_35 : zero1 Tryd.prog 35 = some (KV.ki IntKind.i64 0) := by kernel_rfl
@[go_sem] theorem ty_cmpT_35 : cmpT Tryd.prog 20 35 = some [(0, 0)] := by kernel_rfl
@[go_sem] theorem ty_kindT_38 : kindT Tryd.prog 38 = some true := by kernel_rfl
@[go_sem] theorem ty_sizeT_38 : sizeT Tryd.prog 38 = some 2 := by kernel_rfl
@[go_sem] theorem ty_bytesT_38 : bytesT Tryd.prog 38 = some 16 := by kernel_rfl
@[go_sem] theorem ty_elT_38 : elT Tryd.prog 38 = none := by kernel_rfl
@[go_sem] theorem ty_arrT_38 : arrT Tryd.prog 38 = some (2, 3) := by kernel_rfl
@[go_sem] theorem ty_zeroT_38 : zeroT Tryd.prog 38 = some [DV.int IntKind.i64 0, DV.int IntKind.i64 0] := by kernel_rfl
@[go_sem] theorem ty_placesT_38 : placesT Tryd.prog 38 = none := by kernel_rfl
@[go_sem] theorem ty_cmpT_38 : cmpT Tryd.prog 20 38 = some [(0, 0), (1, 0)] := by kernel_rfl
@[go_sem] theorem ty_kindT_40 : kindT Tryd.prog 40 = some true := by kernel_rfl
@[go_sem] theorem ty_sizeT_40 : sizeT Tryd.prog 40 = some 3 := by kernel_rfl
@[go_sem] theorem ty_bytesT_40 : bytesT Tryd.prog 40 = some 24 := by kernel_rfl
@[go_sem] theorem ty_elT_40 : elT Tryd.prog 40 = none := by kernel_rfl
@[go_sem] theorem ty_arrT_40 : arrT Tryd.prog 40 = none := by kernel_rfl
@[go_sem] theorem ty_zeroT_40 : zeroT Tryd.prog 40 = some [DV.int IntKind.i64 0, DV.int IntKind.i64 0, DV.int IntKind.i64 0] := by kernel_rfl
@[go_sem] theorem ty_placesT_40 : placesT Tryd.prog 40 = some [(0, 1), (1, 1), (2, 1)] := by kernel_rfl
@[go_sem] theorem ty_cmpT_40 : cmpT Tryd.prog 20 40 = some [(0, 0), (1, 0), (2, 0)] := by kernel_rfl
@[go_sem] theorem ty_fldT0_40 : fldT Tryd.prog 40 0 = some (0, 3) := by kernel_rfl
@[go_sem] theorem ty_fldT1_40 : fldT Tryd.prog 40 1 = some (1, 3) := by kernel_rfl
@[go_sem] theorem ty_fldT2_40 : fldT Tryd.prog 40 2 = some (2, 3) := by kernel_rfl
@[go_sem] theorem ty_kindT_42 : kindT Tryd.prog 42 = some true := by kernel_rfl
@[go_sem] theorem ty_sizeT_42 : sizeT Tryd.prog 42 = some 6 := by kernel_rfl
@[go_sem] theorem ty_bytesT_42 : bytesT Tryd.prog 42 = some 48 := by kernel_rfl
@[go_sem] theorem ty_elT_42 : elT Tryd.prog 42 = none := by kernel_rfl
@[go_sem] theorem ty_arrT_42 : arrT Tryd.prog 42 = none := by kernel_rfl
@[go_sem] theorem ty_zeroT_42 : zeroT Tryd.prog 42 = some [DV.int IntKind.i64 0, DV.int IntKind.i64 0, DV.int IntKind.i64 0, DV.int IntKind.i64 0, DV.int IntKind.i64 0, DV.bool false] := by kernel_rfl
@[go_sem] theorem ty_placesT_42 : placesT Tryd.prog 42 = some [(0, 1), (1, 3), (4, 1), (5, 1)] := by kernel_rfl
@[go_sem] theorem ty_cmpT_42 : cmpT Tryd.prog 20 42 = some [(0, 0), (1, 0), (2, 0), (3, 0), (4, 0), (5, 1)] := by kernel_rfl
@[go_sem] theorem ty_fldT0_42 : fldT Tryd.prog 42 0 = some (0, 3) := by kernel_rfl
@[go_sem] theorem ty_fldT1_42 : fldT Tryd.prog 42 1 = some (1, 40) := by kernel_rfl
@[go_sem] theorem ty_fldT2_42 : fldT Tryd.prog 42 2 = some (4, 3) := by kernel_rfl
@[go_sem] theorem ty_fldT3_42 : fldT Tryd.prog 42 3 = some (5, 4) := by kernel_rfl
@[go_sem] theorem ty_kindT_51 : kindT Tryd.prog 51 = some false := by kernel_rfl
@[go_sem] theorem ty_sizeT_51 : sizeT Tryd.prog 51 = some 1 := by kernel_rfl
@[go_sem] theorem ty_bytesT_51 : bytesT Tryd.prog 51 = some 24 := by kernel_rfl
@[go_sem] theorem ty_elT_51 : elT Tryd.prog 51 = some 86 := by kernel_rfl
@[go_sem] theorem ty_arrT_51 : arrT Tryd.prog 51 = none := by kernel_rfl
@[go_sem] theorem ty_zeroT_51 : zeroT Tryd.prog 51 = some [DV.nil] := by kernel_rfl
@[go_sem] theorem ty_placesT_51 : placesT Tryd.prog 51 = none := by kernel_rfl
@[go_sem] theorem ty_kindT_53 : kindT Tryd.prog 53 = some false := by kernel_rfl
@[go_sem] theorem ty_sizeT_53 : sizeT Tryd.prog 53 = some 1 := by kernel_rfl
@[go_sem] theorem ty_bytesT_53 : bytesT Tryd.prog 53 = some 24 := by kernel_rfl
@[go_sem] theorem ty_elT_53 : elT Tryd.prog 53 = some 80 := by kernel_rfl
@[go_sem] theorem ty_arrT_53 : arrT Tryd.prog 53 = none := by kernel_rfl
@[go_sem] theorem ty_zeroT_53 : zeroT Tryd.prog 53 = some [DV.nil] := by kernel_rfl
@[go_sem] theorem ty_placesT_53 : placesT Tryd.prog 53 = none := by kernel_rfl
@[go_sem] theorem ty_kindT_54 : kindT Tryd.prog 54 = some false := by kernel_rfl
@[go_sem] theorem ty_sizeT_54 : sizeT Tryd.prog 54 = some 1 := by kernel_rfl
@[go_sem] theorem ty_bytesT_54 : bytesT Tryd.prog 54 = some 24 := by kernel_rfl
@[go_sem] theorem ty_elT_54 : elT Tryd.prog 54 = some 83 := by kernel_rfl
@[go_sem] theorem ty_arrT_54 : arrT Tryd.prog 54 = none := by kernel_rfl
@[go_sem] theorem ty_zeroT_54 : zeroT Tryd.prog 54 = some [DV.nil] := by kernel_rfl
@[go_sem] theorem ty_placesT_54 : placesT Tryd.prog 54 = none := by kernel_rfl
@[go_sem] theorem ty_kindT_56 : kindT Tryd.prog 56 = some true := by kernel_rfl
@[go_sem] theorem ty_sizeT_56 : sizeT Tryd.prog 56 = some 2 := by kernel_rfl
@[go_sem] theorem ty_bytesT_56 : bytesT Tryd.prog 56 = some 48 := by kernel_rfl
@[go_sem] theorem ty_elT_56 : elT Tryd.prog 56 = none := by kernel_rfl
@[go_sem] theorem ty_arrT_56 : arrT Tryd.prog 56 = none := by kernel_rfl
@[go_sem] theorem ty_zeroT_56 : zeroT Tryd.prog 56 = some [DV.nil, DV.nil] := by kernel_rfl
@[go_sem] theorem ty_placesT_56 : placesT Tryd.prog 56 = some [(0, 1), (1, 1)] := by kernel_rfl
@[go_sem] theorem ty_fldT0_56 : fldT Tryd.prog 56 0 = some (0, 54) := by kernel_rfl
@[go_sem] theorem ty_fldT1_56 : fldT Tryd.prog 56 1 = some (1, 31) := by kernel_rfl
@[go_sem] theorem ty_kindT_58 : kindT Tryd.prog 58 = some true := by kernel_rfl
@[go_sem] theorem ty_sizeT_58 : sizeT Tryd.prog 58 = some 5 := by kernel_rfl
@[go_sem] theorem ty_bytesT_58 : bytesT Tryd.prog 58 = some 96 := by kernel_rfl
@[go_sem] theorem ty_elT_58 : elT Tryd.prog 58 = none := by kernel_rfl
@[go_sem] theorem ty_arrT_58 : arrT Tryd.prog 58 = none := by kernel_rfl
@[go_sem] theorem ty_zeroT_58 : zeroT Tryd.prog 58 = some [DV.str { data := #[] }, DV.nil, DV.int IntKind.i64 0, DV.nil, DV.nil] := by kernel_rfl
@[go_sem] theorem ty_placesT_58 : placesT Tryd.prog 58 = some [(0, 1), (1, 1), (2, 1), (3, 2)] := by kernel_rfl
@[go_sem] theorem ty_fldT0_58 : fldT Tryd.prog 58 0 = some (0, 9) := by kernel_rfl
@[go_sem] theorem ty_fldT1_58 : fldT Tryd.prog 58 1 = some (1, 53) := by kernel_rfl
@[go_sem] theorem ty_fldT2_58 : fldT Tryd.prog 58 2 = some (2, 3) := by kernel_rfl
@[go_sem] theorem ty_fldT3_58 : fldT Tryd.prog 58 3 = some (3, 56) := by kernel_rfl
@[go_sem] theorem ty_kindT_61 : kindT Tryd.prog 61 = some false := by kernel_rfl
@[go_sem] theorem ty_sizeT_61 : sizeT Tryd.prog 61 = some 1 := by kernel_rfl
@[go_sem] theorem ty_bytesT_61 : bytesT Tryd.prog 61 = some 8 := by kernel_rfl
@[go_sem] theorem ty_elT_61 : elT Tryd.prog 61 = none := by kernel_rfl
@[go_sem] theorem ty_arrT_61 : arrT Tryd.prog 61 = none := by kernel_rfl
@[go_sem] theorem ty_zeroT_61 : zeroT Tryd.prog 61 = some [DV.raw (Value.map none)] := by kernel_rfl
@[go_sem] theorem ty_placesT_61 : placesT Tryd.prog 61 = none := by kernel_rfl
@[go_sem] theorem ty_mapT_61 : mapT Tryd.prog 61 = some (38, 3) := by kernel_rfl
@[go_sem] theorem ty_kindT_62 : kindT Tryd.prog 62 = some false := by kernel_rfl
@[go_sem] theorem ty_sizeT_62 : sizeT Tryd.prog 62 = some 1 := by kernel_rfl
@[go_sem] theorem ty_bytesT_62 : bytesT Tryd.prog 62 = some 24 := by kernel_rfl
@[go_sem] theorem ty_elT_62 : elT Tryd.prog 62 = some 30 := by kernel_rfl
@[go_sem] theorem ty_arrT_62 : arrT Tryd.prog 62 = none := by kernel_rfl
@[go_sem] theorem ty_zeroT_62 : zeroT Tryd.prog 62 = some [DV.nil] := by kernel_rfl
@[go_sem] theorem ty_placesT_62 : placesT Tryd.prog 62 = none := by kernel_rfl
@[go_sem] theorem ty_kindT_66 : kindT Tryd.prog 66 = some false := by kernel_rfl
@[go_sem] theorem ty_sizeT_66 : sizeT Tryd.prog 66 = some 1 := by kernel_rfl
@[go_sem] theorem ty_bytesT_66 : bytesT Tryd.prog 66 = some 8 := by kernel_rfl
@[go_sem] theorem ty_elT_66 : elT Tryd.prog 66 = none := by kernel_rfl
@[go_sem] theorem ty_arrT_66 : arrT Tryd.prog 66 = none := by kernel_rfl
@[go_sem] theorem ty_placesT_66 : placesT Tryd.prog 66 = none := by kernel_rfl
@[go_sem] theorem ty_kindT_75 : kindT Tryd.prog 75 = some true := by kernel_rfl
@[go_sem] theorem ty_sizeT_75 : sizeT Tryd.prog 75 = some 3 := by kernel_rfl
@[go_sem] theorem ty_bytesT_75 : bytesT Tryd.prog 75 = some 24 := by kernel_rfl
@[go_sem] theorem ty_elT_75 : elT Tryd.prog 75 = none := by kernel_rfl
@[go_sem] theorem ty_arrT_75 : arrT Tryd.prog 75 = none := by kernel_rfl
@[go_sem] theorem ty_zeroT_75 : zeroT Tryd.prog 75 = some [DV.int IntKind.i64 0, DV.int IntKind.i64 0, DV.int IntKind.i64 0] := by kernel_rfl
@[go_sem] theorem ty_placesT_75 : placesT Tryd.prog 75 = some [(0, 1), (1, 1), (2, 1)] := by kernel_rfl
@[go_sem] theorem ty_cmpT_75 : cmpT Tryd.prog 20 75 = some [(0, 0), (1, 0), (2, 0)] := by kernel_rfl
@[go_sem] theorem ty_fldT0_75 : fldT Tryd.prog 75 0 = some (0, 3) := by kernel_rfl
@[go_sem] theorem ty_fldT1_75 : fldT Tryd.prog 75 1 = some (1, 3) := by kernel_rfl
@[go_sem] theorem ty_fldT2_75 : fldT Tryd.prog 75 2 = some (2, 3) := by kernel_rfl
@[go_sem] theorem ty_kindT_78 : kindT Tryd.prog 78 = some true := by kernel_rfl
@[go_sem] theorem ty_sizeT_78 : sizeT Tryd.prog 78 = some 3 := by kernel_rfl
@[go_sem] theorem ty_bytesT_78 : bytesT Tryd.prog 78 = some 24 := by kernel_rfl
@[go_sem] theorem ty_elT_78 : elT Tryd.prog 78 = none := by kernel_rfl
@[go_sem] theorem ty_arrT_78 : arrT Tryd.prog 78 = none := by kernel_rfl
@[go_sem] theorem ty_zeroT_78 : zeroT Tryd.prog 78 = some [DV.int IntKind.i64 0, DV.int IntKind.i64 0, DV.int IntKind.i64 0] := by kernel_rfl
@[go_sem] theorem ty_placesT_78 : placesT Tryd.prog 78 = some [(0, 1), (1, 1), (2, 1)] := by kernel_rfl
@[go_sem] theorem ty_cmpT_78 : cmpT Tryd.prog 20 78 = some [(0, 0), (1, 0), (2, 0)] := by kernel_rfl
@[go_sem] theorem ty_fldT0_78 : fldT Tryd.prog 78 0 = some (0, 3) := by kernel_rfl
@[go_sem] theorem ty_fldT1_78 : fldT Tryd.prog 78 1 = some (1, 3) := by kernel_rfl
@[go_sem] theorem ty_fldT2_78 : fldT Tryd.prog 78 2 = some (2, 3) := by kernel_rfl
@[go_sem] theorem ty_kindT_80 : kindT Tryd.prog 80 = some true := by kernel_rfl
@[go_sem] theorem ty_sizeT_80 : sizeT Tryd.prog 80 = some 4 := by kernel_rfl
@[go_sem] theorem ty_bytesT_80 : bytesT Tryd.prog 80 = some 40 := by kernel_rfl
@[go_sem] theorem ty_elT_80 : elT Tryd.prog 80 = none := by kernel_rfl
@[go_sem] theorem ty_arrT_80 : arrT Tryd.prog 80 = none := by kernel_rfl
@[go_sem] theorem ty_zeroT_80 : zeroT Tryd.prog 80 = some [DV.str { data := #[] }, DV.int IntKind.i64 0, DV.int IntKind.i64 0, DV.int IntKind.i64 0] := by kernel_rfl
@[go_sem] theorem ty_placesT_80 : placesT Tryd.prog 80 = some [(0, 1), (1, 3)] := by kernel_rfl
@[go_sem] theorem ty_cmpT_80 : cmpT Tryd.prog 20 80 = some [(0, 2), (1, 0), (2, 0), (3, 0)] := by kernel_rfl
@[go_sem] theorem ty_fldT0_80 : fldT Tryd.prog 80 0 = some (0, 9) := by kernel_rfl
@[go_sem] theorem ty_fldT1_80 : fldT Tryd.prog 80 1 = some (1, 78) := by kernel_rfl
@[go_sem] theorem ty_kindT_83 : kindT Tryd.prog 83 = some true := by kernel_rfl
@[go_sem] theorem ty_sizeT_83 : sizeT Tryd.prog 83 = some 3 := by kernel_rfl
@[go_sem] theorem ty_bytesT_83 : bytesT Tryd.prog 83 = some 24 := by kernel_rfl
@[go_sem] theorem ty_elT_83 : elT Tryd.prog 83 = none := by kernel_rfl
@[go_sem] theorem ty_arrT_83 : arrT Tryd.prog 83 = none := by kernel_rfl
@[go_sem] theorem ty_zeroT_83 : zeroT Tryd.prog 83 = some [DV.int IntKind.i64 0, DV.int IntKind.i64 0, DV.int IntKind.i64 0] := by kernel_rfl
@[go_sem] theorem ty_placesT_83 : placesT Tryd.prog 83 = some [(0, 1), (1, 1), (2, 1)] := by kernel_rfl
@[go_sem] theorem ty_cmpT_83 : cmpT Tryd.prog 20 83 = some [(0, 0), (1, 0), (2, 0)] := by kernel_rfl
@[go_sem] theorem ty_fldT0_83 : fldT Tryd.prog 83 0 = some (0, 3) := by kernel_rfl
@[go_sem] theorem ty_fldT1_83 : fldT Tryd.prog 83 1 = some (1, 3) := by kernel_rfl
@[go_sem] theorem ty_fldT2_83 : fldT Tryd.prog 83 2 = some (2, 3) := by kernel_rfl
@[go_sem] theorem ty_kindT_86 : kindT Tryd.prog 86 = some true := by kernel_rfl
@[go_sem] theorem ty_sizeT_86 : sizeT Tryd.prog 86 = some 2 := by kernel_rfl
@[go_sem] theorem ty_bytesT_86 : bytesT Tryd.prog 86 = some 32 := by kernel_rfl
@[go_sem] theorem ty_elT_86 : elT Tryd.prog 86 = none := by kernel_rfl
@[go_sem] theorem ty_arrT_86 : arrT Tryd.prog 86 = none := by kernel_rfl
@[go_sem] theorem ty_zeroT_86 : zeroT Tryd.prog 86 = some [DV.str { data := #[] }, DV.str { data := #[] }] := by kernel_rfl
@[go_sem] theorem ty_placesT_86 : placesT Tryd.prog 86 = some [(0, 1), (1, 1)] := by kernel_rfl
@[go_sem] theorem ty_cmpT_86 : cmpT Tryd.prog 20 86 = some [(0, 2), (1, 2)] := by kernel_rfl
@[go_sem] theorem ty_fldT0_86 : fldT Tryd.prog 86 0 = some (0, 9) := by kernel_rfl
@[go_sem] theorem ty_fldT1_86 : fldT Tryd.prog 86 1 = some (1, 9) := by kernel_rfl
@[go_sem] theorem ty_kindT_108 : kindT Tryd.prog 108 = some true := by kernel_rfl
@[go_sem] theorem ty_sizeT_108 : sizeT Tryd.prog 108 = some 28 := by kernel_rfl
@[go_sem] theorem ty_bytesT_108 : bytesT Tryd.prog 108 = some 448 := by kernel_rfl
@[go_sem] theorem ty_elT_108 : elT Tryd.prog 108 = none := by kernel_rfl
@[go_sem] theorem ty_arrT_108 : arrT Tryd.prog 108 = some (28, 9) := by kernel_rfl
@[go_sem] theorem ty_zeroT_108 : zeroT Tryd.prog 108 = some [DV.str { data := #[] }, DV.str { data := #[] }, DV.str { data := #[] }, DV.str { data := #[] }, DV.str { data := #[] }, DV.str { data := #[] }, DV.str { data := #[] }, DV.str { data := #[] }, DV.str { data := #[] }, DV.str { data := #[] }, DV.str { data := #[] }, DV.str { data := #[] }, DV.str { data := #[] }, DV.str { data := #[] }, DV.str { data := #[] }, DV.str { data := #[] }, DV.str { data := #[] }, DV.str { data := #[] }, DV.str { data := #[] }, DV.str { data := #[] }, DV.str { data := #[] }, DV.str { data := #[] }, DV.str { data := #[] }, DV.str { data := #[] }, DV.str { data := #[] }, DV.str { data := #[] }, DV.str { data := #[] }, DV.str { data := #[] }] := by kernel_rfl
@[go_sem] theorem ty_placesT_108 : placesT Tryd.prog 108 = none := by kernel_rfl
@[go_sem] theorem ty_cmpT_108 : cmpT Tryd.prog 20 108 = some [(0, 2), (1, 2), (2, 2), (3, 2), (4, 2), (5, 2), (6, 2), (7, 2), (8, 2), (9, 2), (10, 2), (11, 2), (12, 2), (13, 2), (14, 2), (15, 2), (16, 2), (17, 2), (18, 2), (19, 2), (20, 2), (21, 2), (22, 2), (23, 2), (24, 2), (25, 2), (26, 2), (27, 2)] := by kernel_rfl
@[go_sem] theorem ty_kindT_111 : kindT Tryd.prog 111 = some false := by kernel_rfl
@[go_sem] theorem ty_sizeT_111 : sizeT Tryd.prog 111 = some 1 := by kernel_rfl
@[go_sem] theorem ty_bytesT_111 : bytesT Tryd.prog 111 = some 8 := by kernel_rfl
@[go_sem] theorem ty_elT_111 : elT Tryd.prog 111 = none := by kernel_rfl
@[go_sem] theorem ty_arrT_111 : arrT Tryd.prog 111 = none := by kernel_rfl
@[go_sem] theorem ty_intT_111 : intT Tryd.prog 111 = some IntKind.u64 := by kernel_rfl
@[go_sem] theorem ty_zeroT_111 : zeroT Tryd.prog 111 = some [DV.int IntKind.u64 0] := by kernel_rfl
@[go_sem] theorem ty_placesT_111 : placesT Tryd.prog 111 = none := by kernel_rfl
@[go_sem] theorem ty_zero1_111 : zero1 Tryd.prog 111 = some (KV.ki IntKind.u64 0) := by kernel_rfl
@[go_sem] theorem ty_cmpT_111 : cmpT Tryd.prog 20 111 = some [(0, 0)] := by kernel_rfl
@[go_sem] theorem ty_kindT_123 : kindT Tryd.prog 123 = some false := by kernel_rfl
@[go_sem] theorem ty_sizeT_123 : sizeT Tryd.prog 123 = some 1 := by kernel_rfl
@[go_sem] theorem ty_bytesT_123 : bytesT Tryd.prog 123 = some 4 := by kernel_rfl
@[go_sem] theorem ty_elT_123 : elT Tryd.prog 123 = none := by kernel_rfl
@[go_sem] theorem ty_arrT_123 : arrT Tryd.prog 123 = none := by kernel_rfl
@[go_sem] theorem ty_intT_123 : intT Tryd.prog 123 = some IntKind.u32 := by kernel_rfl
@[go_sem] theorem ty_zeroT_123 : zeroT Tryd.prog 123 = some [DV.int IntKind.u32 0] := by kernel_rfl
@[go_sem] theorem ty_placesT_123 : placesT Tryd.prog 123 = none := by kernel_rfl
@[go_sem] theorem ty_zero1_123 : zero1 Tryd.prog 123 = some (KV.ki IntKind.u32 0) := by kernel_rfl
@[go_sem] theorem ty_cmpT_123 : cmpT Tryd.prog 20 123 = some [(0, 0)] := by kernel_rfl
@[go_sem] theorem ty_kindT_126 : kindT Tryd.prog 126 = some false := by kernel_rfl
@[go_sem] theorem ty_sizeT_126 : sizeT Tryd.prog 126 = some 1 := by kernel_rfl
@[go_sem] theorem ty_bytesT_126 : bytesT Tryd.prog 126 = some 8 := by kernel_rfl
@[go_sem] theorem ty_elT_126 : elT Tryd.prog 126 = none := by kernel_rfl
@[go_sem] theorem ty_arrT_126 : arrT Tryd.prog 126 = none := by kernel_rfl
@[go_sem] theorem ty_intT_126 : intT Tryd.prog 126 = some IntKind.u64 := by kernel_rfl
@[go_sem] theorem ty_zeroT_126 : zeroT Tryd.prog 126 = some [DV.int IntKind.u64 0] := by kernel_rfl
@[go_sem] theorem ty_placesT_126 : placesT Tryd.prog 126 = none := by kernel_rfl
@[go_sem] theorem ty_zero1_126 : zero1 Tryd.prog 126 = some (KV.ki IntKind.u64 0) := by kernel_rfl
@[go_sem] theorem ty_cmpT_126 : cmpT Tryd.prog 20 126 = some [(0, 0)] := by kernel_rfl
end Go.Av
namespace Go.Av
open Go Go.RowKit Go.Proofs
set_option maxRecDepth 8000
structure Inter where
 from_ : Int
 to : Int
 label : Int
 deriving DecidableEq
def encI (x : Inter) : List DV := [.int .i64 x.from_, .int .i64 x.to, .int .i64 x.label]
structure Ev where
 role : Int
 send : Bool
 peer : Int
 label : Int
 vals : Option (List (List DV))
def valsDV : Option (List (List DV)) → DV
 | none => .nil
 | some els => .sl els
@[go_sem ↓ high] theorem flat_vals (o : Option (List (List DV))) : (valsDV o).flat = true := by cases o <;> rfl
@[go_sem ↓ high] theorem frz_vals (o : Option (List (List DV))) : (valsDV o).frz = valsDV o := by cases o <;> rfl
def encE (x : Ev) : List DV := [.int .i64 x.role, .bool x.send, .int .i64 x.peer, .int .i64 x.label, valsDV x.vals]
def encH (x : List Ev) : List DV := [.sl (x.map encE)]
def encN (x : Int) : List DV := [.int .i64 x]
@[go_sem ↓ high] theorem frz_encI (x : Inter) : frzL (encI x) = encI x := by simp [encI, frzL, DV.frz]
@[go_sem ↓ high] theorem frz_encE (x : Ev) : frzL (encE x) = encE x := by simp [encE, frzL, DV.frz, frz_vals]
@[go_sem ↓ high] theorem frz_encN (x : Int) : frzL (encN x) = encN x := by simp [encN, frzL, DV.frz]
@[go_sem ↓ high] theorem frz_encH (x : List Ev) : frzL (encH x) = encH x := by simp [encH, frzL, DV.frz]
theorem all_succ {α : Type} {p : α → Bool} {l : List α} {k : Nat} (h : k < l.length) : (l.take (k + 1)).all p = ((l.take k).all p && p l[k]) := by
 rw [List.take_succ_eq_append_getElem h, List.all_append]
 simp
theorem all_no {α : Type} {p : α → Bool} {l : List α} {k : Nat} (h : k < l.length) (hb : p l[k] = false) : l.all p = false := by
 rw [List.all_eq_false]
 exact ⟨_, List.getElem_mem h, by simp [hb]⟩
@[go_sem] theorem clo_encI (l : List Inter) : clo (l.map encI) ↔ True := by
 simp only [iff_true]
 intro e he d hd
 obtain ⟨x, _, rfl⟩ := List.mem_map.1 he
 simp only [encI, List.mem_cons, List.not_mem_nil, or_false] at hd
 rcases hd with rfl | rfl | rfl <;> exact .int _ _
@[go_sem] theorem clo_encN (l : List Int) : clo (l.map encN) ↔ True := by
 simp only [iff_true]
 intro e he d hd
 obtain ⟨x, _, rfl⟩ := List.mem_map.1 he
 simp only [encN, List.mem_cons, List.not_mem_nil, or_false] at hd
 subst hd
 exact .int _ _
end Go.Av
namespace Go.Av
open Go Go.RowKit Go.Proofs
set_option maxRecDepth 8000
theorem bytes_eq (a b : ByteArray) : (a == b) = decide (a = b) := by
 obtain ⟨a⟩ := a
 obtain ⟨b⟩ := b
 show ByteArray.beq ⟨a⟩ ⟨b⟩ = _
 unfold ByteArray.beq
 simp
 rw [Bool.eq_iff_iff]
 simp
def isDigit (c : Int) : Bool := decide (48 ≤ c) && decide (c ≤ 57)
def isLetter (c : Int) : Bool := (decide (97 ≤ c) && decide (c ≤ 122)) || (decide (65 ≤ c) && decide (c ≤ 90))
def isInner (c : Int) : Bool := isLetter c || isDigit c || decide (c = 95)
theorem f78 (c : Int) : Impl Tryd.prog 78 [.one (.int .u8 c)] (.one (.one (.bool (isDigit c)))) := by
 refine impl_intro Tryd.func78 z78.b z78.e z78.r z78.n Tryd.ntmps78 z78.d (by simp) fun hs => ?_
 simp only [c78, slotsOf]
 repeat' first | refine St.go ?_ | (refine Ru.go ?_; intro K hK; simp [go_sem]; (first | apply hK | refine ⟨by first | omega | (simp [zf, zg]; first | done | omega), ?_⟩ | refine ⟨hK _ ?_, fun h => ?_⟩ | refine ⟨?_, ?_⟩); all_goals ((try apply hK); clear hK K))
 simp [go_sem, isDigit]
theorem f65 (c : Int) : Impl Tryd.prog 65 [.one (.int .u8 c)] (.one (.one (.bool (isLetter c)))) := by
 refine impl_intro Tryd.func65 z65.b z65.e z65.r z65.n Tryd.ntmps65 z65.d (by simp) fun hs => ?_
 simp only [c65, slotsOf]
 repeat' first | refine St.go ?_ | (refine Ru.go ?_; intro K hK; simp [go_sem]; (first | apply hK | refine ⟨by first | omega | (simp [zf, zg]; first | done | omega), ?_⟩ | refine ⟨hK _ ?_, fun h => ?_⟩ | refine ⟨?_, ?_⟩); all_goals ((try apply hK); clear hK K))
 simp [go_sem, isLetter]
theorem f66 (c : Int) : Impl Tryd.prog 66 [.one (.int .u8 c)] (.one (.one (.bool (isInner c)))) := by
 refine impl_intro Tryd.func66 z66.b z66.e z66.r z66.n Tryd.ntmps66 z66.d (by simp) fun hs => ?_
 simp only [c66, slotsOf]
 cases hl : isLetter c with
 | true =>
   repeat' first | refine St.go ?_ | (refine Ru.go ?_; intro K hK; simp [go_sem, hl]; (first | apply hK | ((try refine .inl ?_); refine ⟨_, by (try intro hc); (repeat' first | exact f65 c | exact hc | refine And.intro ?_ ?_ | simp [go_sem, hl]); first | done | omega, ?_⟩; first | apply hK | (refine ⟨by simp [go_sem, hl], ?_⟩; first | apply hK | refine ⟨by simp [go_sem, hl], hK _ _ ?_⟩)) | refine ⟨.one (.one (.bool false)), by simp [go_sem, hl], hK _ _ ?_⟩ | refine ⟨by first | omega | (simp [zf, zg, hl]; first | done | omega), ?_⟩ | refine ⟨hK _ ?_, fun h => ?_⟩ | refine ⟨?_, ?_⟩); all_goals ((try apply hK); clear hK K))
   simp [go_sem, isInner, hl]
 | false =>
   repeat' first | refine St.go ?_ | (refine Ru.go ?_; intro K hK; simp [go_sem, hl]; (first | apply hK | ((try refine .inl ?_); refine ⟨_, by (try intro hc); (repeat' first | exact f65 c | exact f78 c | exact hc | refine And.intro ?_ ?_ | simp [go_sem, hl]); first | done | omega, ?_⟩; first | apply hK | (refine ⟨by simp [go_sem, hl], ?_⟩; first | apply hK | refine ⟨by simp [go_sem, hl], hK _ _ ?_⟩)) | refine ⟨.one (.one (.bool false)), by simp [go_sem, hl], hK _ _ ?_⟩ | refine ⟨by first | omega | (simp [zf, zg, hl]; first | done | omega), ?_⟩ | refine ⟨hK _ ?_, fun h => ?_⟩ | refine ⟨?_, ?_⟩); all_goals ((try apply hK); clear hK K))
   simp [go_sem, isInner, hl]
   rfl
end Go.Av
namespace Go.Av
open Go Go.RowKit Go.Proofs
set_option maxRecDepth 8000
def encS (x : ByteArray) : List DV := [.str x]
def strL (s : ByteArray) : List Int := s.data.toList.map fun b => (b.toNat : Int)
theorem strL_len (s : ByteArray) : (strL s).length = s.size := by simp [strL]
theorem strL_get {s : ByteArray} {k : Nat} (h : k < s.size) : ∃ b : UInt8, s[k]? = some b ∧ (b.toNat : Int) = (strL s)[k]'(by rw [strL_len]; exact h) := by
 refine ⟨s[k], by simp [h], ?_⟩
 simp [strL, ByteArray.getElem_eq_getElem_data]
theorem strL_at {s : ByteArray} {k : Nat} (h : k < s.size) : ((s[k]).toNat : Int) = (strL s)[k]'(by rw [strL_len]; exact h) := by
 simp [strL, ByteArray.getElem_eq_getElem_data]
theorem str_empty (s : ByteArray) : (s == ⟨#[]⟩) = decide (s.size = 0) := by
 rw [bytes_eq]
 by_cases h : s = ⟨#[]⟩
 ·subst h; rfl
 ·simp only [h, decide_false]
  symm
  rw [decide_eq_false_iff_not]
  intro h0
  apply h
  obtain ⟨d⟩ := s
  congr 1
  exact Array.eq_empty_of_size_eq_zero h0
def kws : List ByteArray := [⟨#[97, 103, 97, 105, 110]⟩, ⟨#[97, 110, 100]⟩, ⟨#[97, 115]⟩, ⟨#[97, 116]⟩, ⟨#[99, 97, 108, 108]⟩, ⟨#[99, 104, 111, 105, 99, 101]⟩, ⟨#[101, 108, 115, 101]⟩, ⟨#[102, 114, 111, 109]⟩, ⟨#[105, 102]⟩, ⟨#[105, 110, 116]⟩, ⟨#[108, 101, 110]⟩, ⟨#[108, 111, 111, 112]⟩, ⟨#[109, 101, 115, 115, 97, 103, 101]⟩, ⟨#[111, 102]⟩, ⟨#[111, 102, 102, 101, 114]⟩, ⟨#[111, 110]⟩, ⟨#[111, 114]⟩, ⟨#[112, 97, 114]⟩, ⟨#[112, 108, 97, 121, 115]⟩, ⟨#[112, 114, 111, 116, 111, 99, 111, 108]⟩, ⟨#[115, 101, 114, 118, 105, 99, 101]⟩, ⟨#[116, 101, 120, 116]⟩, ⟨#[116, 105, 109, 101, 115]⟩, ⟨#[116, 111]⟩, ⟨#[118, 97, 114]⟩, ⟨#[119, 104, 101, 114, 101]⟩, ⟨#[119, 104, 105, 108, 101]⟩, ⟨#[119, 105, 116, 104, 105, 110]⟩]
def isName (s : ByteArray) : Bool := !decide (s.size = 0) && decide (s.size ≤ 16) && isLetter ((strL s)[0]?.getD 0) && (strL s).all isInner
def hasS (l : List ByteArray) (s : ByteArray) : Bool := l.any (· == s)
def isWord (s : ByteArray) : Bool := isName s && !hasS kws s
theorem isName_zero {s : ByteArray} (h : s.size = 0) : isName s = false := by
 simp [isName, h]
theorem isName_pos {s : ByteArray} (h : 0 < s.size) : isName s = (decide (s.size ≤ 16) && isLetter ((strL s)[0]'(by rw [strL_len]; exact h)) && (strL s).all isInner) := by
 have h' : 0 < (strL s).length := by rw [strL_len]; exact h
 have h0 : ¬ s.size = 0 := by omega
 simp only [isName, h0, decide_false, Bool.not_false, Bool.true_and, List.getElem?_eq_getElem h', Option.getD_some]
theorem f58 (s : ByteArray) : Impl Tryd.prog 58 [.one (.str s)] (.one (.one (.bool (isName s)))) := by
 refine impl_z Tryd.func58 z58 Tryd.ntmps58 (by simp) ?_
 simp only [c58, slotsOf]
 have he := str_empty s
 by_cases h0 : s.size = 0
 ·have h0' : isName s = false := isName_zero h0
  repeat' first | refine St.go ?_ | ((with_reducible refine zY (t := ?_) ?hc (fun h => ?_) (fun h => ?_)); (case hc => rfl); all_goals (try simp [go_sem, he, h0] at h); all_goals try omega) | (refine Ru.go ?_; intro K hK; simp [go_sem, he, h0]; (try simp (disch := omega) only [zh, zi, eq_self, true_and]); (first | apply hK | refine ⟨by first | omega | (simp [zf, zg, he, h0]; first | done | omega), ?_⟩ | refine ⟨hK _ ?_, fun h => ?_⟩ | refine ⟨?_, ?_⟩); all_goals ((try apply hK); clear hK K))
  simp [go_sem, h0']
 ·have hpos : 0 < s.size := by omega
  obtain ⟨b0, hb0, hn0⟩ := strL_get hpos
  have hn := isName_pos hpos
  rw [← hn0] at hn
  by_cases h16 : s.size ≤ 16
  ·have h16' : ¬ (16 : Int) < (s.size : Int) := by omega
   cases hl : isLetter (b0.toNat : Int) with
   | false =>
     repeat' first | refine St.go ?_ | ((with_reducible refine zY (t := ?_) ?hc (fun h => ?_) (fun h => ?_)); (case hc => rfl); all_goals (try simp [go_sem, he, h0, h16', hb0, hl] at h); all_goals try omega) | (refine Ru.go ?_; intro K hK; simp [go_sem, he, h0, h16', hb0, hl]; (try simp (disch := omega) only [zh, zi, eq_self, true_and]); (first | apply hK | ((try refine .inl ?_); refine ⟨_, by (try intro hc); (repeat' first | exact f65 _ | exact hc | refine And.intro ?_ ?_ | simp [go_sem, he, h0, h16', hb0, hl]); first | done | omega, ?_⟩; first | apply hK | (refine ⟨by simp [go_sem, he, h0, h16', hb0, hl], ?_⟩; first | apply hK | refine ⟨by simp [go_sem, he, h0, h16', hb0, hl], hK _ _ ?_⟩)) | refine ⟨.one (.one (.bool false)), by simp [go_sem, he, h0, h16', hb0, hl], hK _ _ ?_⟩ | refine ⟨by first | omega | (simp [zf, zg, he, h0, h16', hb0, hl]; first | done | omega), ?_⟩ | refine ⟨hK _ ?_, fun h => ?_⟩ | refine ⟨?_, ?_⟩); all_goals ((try apply hK); clear hK K))
     simp [go_sem, hn, hl]
   | true =>
     repeat' first | refine St.go ?_ | ((with_reducible refine zY (t := ?_) ?hc (fun h => ?_) (fun h => ?_)); (case hc => rfl); all_goals (try simp [go_sem, he, h0, h16', hb0, hl] at h); all_goals try omega) | (refine Ru.go ?_; intro K hK; simp [go_sem, he, h0, h16', hb0, hl]; (try simp (disch := omega) only [zh, zi, eq_self, true_and]); (first | apply hK | ((try refine .inl ?_); refine ⟨_, by (try intro hc); (repeat' first | exact f65 _ | exact hc | refine And.intro ?_ ?_ | simp [go_sem, he, h0, h16', hb0, hl]); first | done | omega, ?_⟩; first | apply hK | (refine ⟨by simp [go_sem, he, h0, h16', hb0, hl], ?_⟩; first | apply hK | refine ⟨by simp [go_sem, he, h0, h16', hb0, hl], hK _ _ ?_⟩)) | refine ⟨.one (.one (.bool false)), by simp [go_sem, he, h0, h16', hb0, hl], hK _ _ ?_⟩ | refine ⟨by first | omega | (simp [zf, zg, he, h0, h16', hb0, hl]; first | done | omega), ?_⟩ | refine ⟨hK _ ?_, fun h => ?_⟩ | refine ⟨?_, ?_⟩); all_goals ((try apply hK); clear hK K))
     refine zk (fun n e => ∃ k : Nat, k + n = s.size ∧ ((strL s).take k).all isInner = true ∧ e = [(19, .sv (.one (.int .i64 k))), (18, .sv (.one (.int .i64 s.size))), (0, .sv (.one (.str s)))]) s.size _ ⟨0, by simp, by simp, rfl⟩ (by simp [go_sem]) ?_
     rintro n e ⟨k, hk, hall, rfl⟩
     by_cases hlt : k < s.size
     ·have hbn := strL_at hlt
      have hlt' : k < (strL s).length := by rw [strL_len]; exact hlt
      cases hi : isInner ((s[k]).toNat : Int) with
      | false =>
        repeat' first | refine St.go ?_ | ((with_reducible refine zY (t := ?_) ?hc (fun h => ?_) (fun h => ?_)); (case hc => rfl); all_goals (try simp [go_sem, hlt, hi] at h); all_goals try omega) | (refine Ru.go ?_; intro K hK; simp [go_sem, hlt, hi]; (try simp (disch := omega) only [zh, zi, eq_self, true_and]); (first | apply hK | ((try refine .inl ?_); refine ⟨_, by (try intro hc); (repeat' first | exact f66 _ | exact hc | refine And.intro ?_ ?_ | simp [go_sem, hlt, hi]); first | done | omega, ?_⟩; first | apply hK | (refine ⟨by simp [go_sem, hlt, hi], ?_⟩; first | apply hK | refine ⟨by simp [go_sem, hlt, hi], hK _ _ ?_⟩)) | refine ⟨.one (.one (.bool false)), by simp [go_sem, hlt, hi], hK _ _ ?_⟩ | refine ⟨by first | omega | (simp [zf, zg, hlt, hi]; first | done | omega), ?_⟩ | refine ⟨hK _ ?_, fun h => ?_⟩ | refine ⟨?_, ?_⟩); all_goals ((try apply hK); clear hK K))
        have := all_no hlt' (by rw [← hbn]; exact hi)
        simp [go_sem, hn, this]
      | true =>
        repeat' first | refine St.go ?_ | ((with_reducible refine zY (t := ?_) ?hc (fun h => ?_) (fun h => ?_)); (case hc => rfl); all_goals (try simp [go_sem, hlt, hi] at h); all_goals try omega) | (refine Ru.go ?_; intro K hK; simp [go_sem, hlt, hi]; (try simp (disch := omega) only [zh, zi, eq_self, true_and]); (first | apply hK | ((try refine .inl ?_); refine ⟨_, by (try intro hc); (repeat' first | exact f66 _ | exact hc | refine And.intro ?_ ?_ | simp [go_sem, hlt, hi]); first | done | omega, ?_⟩; first | apply hK | (refine ⟨by simp [go_sem, hlt, hi], ?_⟩; first | apply hK | refine ⟨by simp [go_sem, hlt, hi], hK _ _ ?_⟩)) | refine ⟨.one (.one (.bool false)), by simp [go_sem, hlt, hi], hK _ _ ?_⟩ | refine ⟨by first | omega | (simp [zf, zg, hlt, hi]; first | done | omega), ?_⟩ | refine ⟨hK _ ?_, fun h => ?_⟩ | refine ⟨?_, ?_⟩); all_goals ((try apply hK); clear hK K))
        refine zj (n - 1) _ (by omega) ⟨k + 1, by omega, ?_, rfl⟩ ?_
        ·rw [all_succ hlt', hall, ← hbn, hi]; rfl
        ·simp [go_sem]
     ·have htk : (strL s).take k = strL s := List.take_of_length_le (by rw [strL_len]; omega)
      rw [htk] at hall
      repeat' first | refine St.go ?_ | ((with_reducible refine zY (t := ?_) ?hc (fun h => ?_) (fun h => ?_)); (case hc => rfl); all_goals (try simp [go_sem, hlt] at h); all_goals try omega) | (refine Ru.go ?_; intro K hK; simp [go_sem, hlt]; (try simp (disch := omega) only [zh, zi, eq_self, true_and]); (first | apply hK | refine ⟨by first | omega | (simp [zf, zg, hlt]; first | done | omega), ?_⟩ | refine ⟨hK _ ?_, fun h => ?_⟩ | refine ⟨?_, ?_⟩); all_goals ((try apply hK); clear hK K))
      simp [go_sem, hn, hl, h16, hall]
  ·have h16' : (16 : Int) < (s.size : Int) := by omega
   repeat' first | refine St.go ?_ | ((with_reducible refine zY (t := ?_) ?hc (fun h => ?_) (fun h => ?_)); (case hc => rfl); all_goals (try simp [go_sem, he, h0, h16', hb0] at h); all_goals try omega) | (refine Ru.go ?_; intro K hK; simp [go_sem, he, h0, h16', hb0]; (try simp (disch := omega) only [zh, zi, eq_self, true_and]); (first | apply hK | refine ⟨by first | omega | (simp [zf, zg, he, h0, h16', hb0]; first | done | omega), ?_⟩ | refine ⟨hK _ ?_, fun h => ?_⟩ | refine ⟨?_, ?_⟩); all_goals ((try apply hK); clear hK K))
   simp [go_sem, hn, h16]
end Go.Av
namespace Go.Av
open Go Go.RowKit Go.Proofs
set_option maxRecDepth 8000
theorem any_succ {α : Type} {p : α → Bool} {l : List α} {k : Nat} (h : k < l.length) : (l.take (k + 1)).any p = ((l.take k).any p || p l[k]) := by
 rw [List.take_succ_eq_append_getElem h, List.any_append]
 simp
def firstB {α : Type} (p : α → Bool) (l : List α) : Int := match l.findIdx? p with
 | some i => (i : Int)
 | none => -1
theorem firstB_at {α : Type} {p : α → Bool} {l : List α} {k : Nat} (hk : k < l.length) (h0 : (l.take k).any p = false) (h1 : p l[k] = true) : firstB p l = k := by
 have : l.findIdx? p = some k := by
  rw [List.findIdx?_eq_some_iff_getElem]
  refine ⟨hk, h1, fun j hj => ?_⟩
  rw [List.any_eq_false] at h0
  have := h0 (l[j]'(by omega)) (List.mem_iff_getElem.2 ⟨j, by rw [List.length_take]; omega, by simp⟩)
  simpa using this
 simp [firstB, this]
theorem firstB_none {α : Type} {p : α → Bool} {l : List α} (h : l.any p = false) : firstB p l = -1 := by
 have : l.findIdx? p = none := by
  rw [List.findIdx?_eq_none_iff]
  intro x hx
  rw [List.any_eq_false] at h
  simpa using h x hx
 simp [firstB, this]
theorem firstB_any {α : Type} (p : α → Bool) (l : List α) : decide (0 ≤ firstB p l) = l.any p := by
 cases h : l.any p with
 | false => rw [firstB_none h]; rfl
 | true =>
   unfold firstB
   cases h2 : l.findIdx? p with
   | none =>
     rw [List.findIdx?_eq_none_iff] at h2
     rw [List.any_eq_true] at h
     obtain ⟨x, hx, hp⟩ := h
     rw [h2 x hx] at hp
     cases hp
   | some i => simp
theorem any_bytes (l : List ByteArray) (x : ByteArray) : l.any (fun y => x == y) = hasS l x := by
 unfold hasS
 congr 1
 funext y
 rw [bytes_eq, bytes_eq]
 by_cases h : x = y
 ·subst h; rfl
 ·rw [decide_eq_false h, decide_eq_false (fun e => h e.symm)]
theorem f59 (l : List ByteArray) (x : ByteArray) (hl : l.length ≤ 1000000) : Impl Tryd.prog 59 [.one (.sl (l.map encS)), .one (.str x)] (.one (.one (.int .i64 (firstB (fun y => x == y) l)))) := by
 refine impl_z Tryd.func59 z59 Tryd.ntmps59 (by simp) ?_
 simp only [c59, slotsOf]
 repeat' first | refine St.go ?_ | ((with_reducible refine zY (t := ?_) ?hc (fun h => ?_) (fun h => ?_)); (case hc => rfl); all_goals (try simp [go_sem] at h); all_goals try omega) | (refine Ru.go ?_; intro K hK; simp [go_sem]; (try simp (disch := omega) only [zh, zi, eq_self, true_and]); (first | apply hK | refine ⟨by first | omega | (simp [zf, zg]; first | done | omega), ?_⟩ | refine ⟨hK _ ?_, fun h => ?_⟩ | refine ⟨?_, ?_⟩); all_goals ((try apply hK); clear hK K))
 refine zk (fun n e => ∃ k : Nat, k + n = l.length ∧ (l.take k).any (fun y => x == y) = false ∧ e = [(8, .sv (.one (.int .i64 k))), (7, .sv (.one (.int .i64 l.length))), (1, .sv (.one (.str x))), (0, .sv (.one (.sl (l.map encS))))]) l.length _ ⟨0, by simp, by simp, rfl⟩ (by simp [go_sem]) ?_
 rintro n e ⟨k, hk, h0, rfl⟩
 by_cases hlt : k < l.length
 ·cases hx : (x == l[k]) with
  | true =>
    have hf := firstB_at (p := fun y => x == y) hlt h0 hx
    repeat' first | refine St.go ?_ | ((with_reducible refine zY (t := ?_) ?hc (fun h => ?_) (fun h => ?_)); (case hc => rfl); all_goals (try simp [go_sem, hlt, encS, hx] at h); all_goals try omega) | (refine Ru.go ?_; intro K hK; simp [go_sem, hlt, encS, hx]; (try simp (disch := omega) only [zh, zi, eq_self, true_and]); (first | apply hK | refine ⟨by first | omega | (simp [zf, zg, hlt, encS, hx]; first | done | omega), ?_⟩ | refine ⟨hK _ ?_, fun h => ?_⟩ | refine ⟨?_, ?_⟩); all_goals ((try apply hK); clear hK K))
    simp [go_sem, hf]
  | false =>
    repeat' first | refine St.go ?_ | ((with_reducible refine zY (t := ?_) ?hc (fun h => ?_) (fun h => ?_)); (case hc => rfl); all_goals (try simp [go_sem, hlt, encS, hx] at h); all_goals try omega) | (refine Ru.go ?_; intro K hK; simp [go_sem, hlt, encS, hx]; (try simp (disch := omega) only [zh, zi, eq_self, true_and]); (first | apply hK | refine ⟨by first | omega | (simp [zf, zg, hlt, encS, hx]; first | done | omega), ?_⟩ | refine ⟨hK _ ?_, fun h => ?_⟩ | refine ⟨?_, ?_⟩); all_goals ((try apply hK); clear hK K))
    refine zj (n - 1) _ (by omega) ⟨k + 1, by omega, ?_, rfl⟩ ?_
    ·rw [any_succ hlt, h0, hx]; rfl
    ·simp [go_sem]
 ·have hkl : l.take k = l := List.take_of_length_le (by omega)
  rw [hkl] at h0
  have hf := firstB_none h0
  repeat' first | refine St.go ?_ | ((with_reducible refine zY (t := ?_) ?hc (fun h => ?_) (fun h => ?_)); (case hc => rfl); all_goals (try simp [go_sem, hlt] at h); all_goals try omega) | (refine Ru.go ?_; intro K hK; simp [go_sem, hlt]; (try simp (disch := omega) only [zh, zi, eq_self, true_and]); (first | apply hK | refine ⟨by first | omega | (simp [zf, zg, hlt]; first | done | omega), ?_⟩ | refine ⟨hK _ ?_, fun h => ?_⟩ | refine ⟨?_, ?_⟩); all_goals ((try apply hK); clear hK K))
  simp [go_sem, hf]
theorem f52 (l : List ByteArray) (x : ByteArray) (hl : l.length ≤ 1000000) : Impl Tryd.prog 52 [.one (.sl (l.map encS)), .one (.str x)] (.one (.one (.bool (hasS l x)))) := by
 refine impl_z Tryd.func52 z52 Tryd.ntmps52 (by simp) ?_
 simp only [c52, slotsOf]
 have hf := firstB_any (fun y => x == y) l
 rw [any_bytes] at hf
 repeat' first | refine St.go ?_ | (refine Ru.go ?_; intro K hK; simp [go_sem]; (first | apply hK | ((try refine .inl ?_); refine ⟨_, by (try intro hc); (repeat' first | exact f59 l x hl | exact hc | refine And.intro ?_ ?_ | simp [go_sem]); first | done | omega, ?_⟩; first | apply hK | (refine ⟨by simp [go_sem], ?_⟩; first | apply hK | refine ⟨by simp [go_sem], hK _ _ ?_⟩)) | refine ⟨by first | omega | (simp [zf, zg]; first | done | omega), ?_⟩ | refine ⟨hK _ ?_, fun h => ?_⟩ | refine ⟨?_, ?_⟩); all_goals ((try apply hK); clear hK K))
 simp [go_sem, hf]
theorem kws_len : kws.length ≤ 1000000 := by decide
theorem f51 (s : ByteArray) : Impl Tryd.prog 51 [.one (.str s)] (.one (.one (.bool (isWord s)))) := by
 refine impl_z Tryd.func51 z51 Tryd.ntmps51 (by simp) ?_
 simp only [c51, slotsOf]
 have f52s := f52 kws s kws_len
 simp only [kws, List.map_cons, List.map_nil, encS] at f52s
 have hw : isWord s = (isName s && !hasS kws s) := rfl
 simp only [kws] at hw
 cases hn : isName s with
 | true =>
   repeat' first | refine St.go ?_ | (refine Ru.go ?_; intro K hK; simp [go_sem, hn]; (first | apply hK | ((try refine .inl ?_); refine ⟨_, by (try intro hc); (repeat' first | exact f58 s | exact f52s | exact hc | refine And.intro ?_ ?_ | simp [go_sem, hn]); first | done | omega, ?_⟩; first | apply hK | (refine ⟨by simp [go_sem, hn], ?_⟩; first | apply hK | refine ⟨by simp [go_sem, hn], hK _ _ ?_⟩)) | refine ⟨by first | omega | (simp [zf, zg, hn]; first | done | omega), ?_⟩ | refine ⟨hK _ ?_, fun h => ?_⟩ | refine ⟨?_, ?_⟩); all_goals ((try apply hK); clear hK K))
   simp [go_sem, hw, hn]
 | false =>
   repeat' first | refine St.go ?_ | (refine Ru.go ?_; intro K hK; simp [go_sem, hn]; (first | apply hK | ((try refine .inl ?_); refine ⟨_, by (try intro hc); (repeat' first | exact f58 s | exact hc | refine And.intro ?_ ?_ | simp [go_sem, hn]); first | done | omega, ?_⟩; first | apply hK | (refine ⟨by simp [go_sem, hn], ?_⟩; first | apply hK | refine ⟨by simp [go_sem, hn], hK _ _ ?_⟩)) | refine ⟨by first | omega | (simp [zf, zg, hn]; first | done | omega), ?_⟩ | refine ⟨hK _ ?_, fun h => ?_⟩ | refine ⟨?_, ?_⟩); all_goals ((try apply hK); clear hK K))
   simp [go_sem, hw, hn]
end Go.Av
namespace Go.Av
open Go Go.RowKit Go.Proofs
set_option maxRecDepth 100000 in
theorem str_count (s : ByteArray) (c : UInt8) (w : World) :
  Calls Tryd.prog 87 #[.string s, .string ⟨#[c]⟩] w fun e w' => e = .returned (.int .i64 (Lib.countByte s.data.toList c)) ∧ w' = w := by
 go_enter Tryd.func87, Tryd.ntmps87
 go_wp2
 rw [run_callFunc_extern Tryd.func91 (by kernel_rfl) (by kernel_rfl) (by kernel_rfl) (e := Extern.BytealgCount.count) (by kernel_rfl), Lib.run_countString]
 simp only [Result.andThen]
 rw [Oper.upon_value]
 go_wp2
 go_ret
 exact ⟨rfl, rfl⟩
set_option maxRecDepth 100000 in
theorem str_indexByte (s : ByteArray) (c : Int) (w : World) :
  Calls Tryd.prog 94 #[.string s, .int .u8 c] w fun e w' => e = .returned (.int .i64 (Lib.indexByte s.data.toList c.toNat.toUInt8)) ∧ w' = w := by
 go_enter Tryd.func94, Tryd.ntmps94
 go_wp2
 rw [run_callFunc_extern Tryd.func98 (by kernel_rfl) (by kernel_rfl) (by kernel_rfl) (e := Extern.BytealgIndexByte.indexByte) (by kernel_rfl), Lib.run_indexByteString]
 simp only [Result.andThen]
 rw [Oper.upon_value]
 go_wp2
 go_ret
 exact ⟨rfl, rfl⟩
set_option maxRecDepth 100000 in
theorem str_index1 (s : ByteArray) (c : UInt8) (w : World) :
  Calls Tryd.prog 92 #[.string s, .string ⟨#[c]⟩] w fun e w' => e = .returned (.int .i64 (Lib.indexByte s.data.toList c)) ∧ w' = w := by
 go_enter Tryd.func92, Tryd.ntmps92
 go_wp2_with (go_at_call 94; refine (str_indexByte _ _ _).mono ?_; rintro e w' ⟨rfl, rfl⟩)
 ·have h : ([c] == s.toList) = true := by assumption
  go_ret
  refine ⟨?_, rfl⟩
  have e : s.data.toList = [c] := by rw [← Lib.toList_data]; exact (beq_iff_eq.1 h).symm
  rw [e]
  simp [Lib.indexByte]
 ·go_ret
  exact ⟨rfl, rfl⟩
set_option maxHeartbeats 1000000 in
theorem str_index (s : ByteArray) (c : UInt8) (w : World) :
  Calls Tryd.prog 88 #[.string s, .string ⟨#[c]⟩] w fun e w' => e = .returned (.int .i64 (Lib.indexByte s.data.toList c)) ∧ w' = w := by
 go_enter Tryd.func88, Tryd.ntmps88
 go_wp2_with (go_at_call 92; refine (str_index1 _ _ _).mono ?_; rintro e w' ⟨rfl, rfl⟩)
 go_ret
 exact ⟨rfl, rfl⟩
theorem Impl.ofStr2 {P : Program} {f : FuncId} {fn : Func} (hf : P.funcs[f]? = some fn) (hb : fn.body.isSome = true) (hn : fn.name ≠ "runtime.NumGoroutine") {s t : ByteArray} {k : IntKind} {n : Int}
  (h : ∀ w, Calls P f #[.string s, .string t] w fun e w' => e = .returned (.int k n) ∧ w' = w) : Impl P f [.one (.str s), .one (.str t)] (.one (.one (.int k n))) := by
 refine ⟨⟨fn, hf, hb, hn⟩, fun w S vs hS hv => ?_⟩
 have hvs : vs = [.string s, .string t] := by
  generalize hr : ([] : List Nat) = r at hv
  cases hv with
  | cons v x r vs xs rs h1 h2 =>
    cases h2 with
    | cons v' x' r' vs' xs' rs' h3 h4 =>
      cases h4
      cases CzS.one_inv h1
      cases CzS.one_inv h3
      rfl
 subst hvs
 refine (h w).mono ?_
 rintro e w' ⟨rfl, rfl⟩
 exact ⟨_, [], rfl, Below.refl _ _, by simp, by simp, .one _ _ _ (.one _ _ _ (.int _ _))⟩
end Go.Av
namespace Go.Av
open Go
def pieceL : List UInt8 → List (List UInt8)
 | [] => [[]]
 | b :: l => if b = 46 then [] :: pieceL l else match pieceL l with
   | [] => [[b]]
   | p :: ps => (b :: p) :: ps
theorem pieceL_ne : ∀ (l : List UInt8), pieceL l ≠ []
 | [] => by simp [pieceL]
 | b :: l => by
   unfold pieceL
   split
   ·simp
   ·split <;> simp
theorem pieceL_no : ∀ {l : List UInt8}, 46 ∉ l → pieceL l = [l]
 | [], _ => rfl
 | b :: l, h => by
   have h1 : b ≠ 46 := fun e => h (by simp [e])
   have h2 := pieceL_no (l := l) fun e => h (by simp [e])
   simp [pieceL, h1, h2]
theorem pieceL_at : ∀ {a l : List UInt8}, 46 ∉ a → pieceL (a ++ 46 :: l) = a :: pieceL l
 | [], l, _ => by simp [pieceL]
 | b :: a, l, h => by
   have h1 : b ≠ 46 := fun e => h (by simp [e])
   have h2 := pieceL_at (a := a) (l := l) fun e => h (by simp [e])
   simp [pieceL, h1, h2]
def toB (l : List UInt8) : ByteArray := ⟨l.toArray⟩
theorem toB_list (s : ByteArray) : toB s.data.toList = s := by simp [toB]
theorem list_toB (l : List UInt8) : (toB l).data.toList = l := by simp [toB]
theorem size_toB (l : List UInt8) : (toB l).size = l.length := by simp [toB, ByteArray.size]
theorem extract_toB (l : List UInt8) (a b : Nat) : (toB l).extract a b = toB ((l.take b).drop a) := by
 have h : ((toB l).extract a b).data.toList = ((l.take b).drop a) := by
  rw [ByteArray.data_extract, Array.toList_extract, list_toB, List.extract_eq_take_drop, List.drop_take]
 rw [← h, toB_list]
theorem index_at : ∀ {a l : List UInt8}, 46 ∉ a → Lib.indexByte (a ++ 46 :: l) 46 = a.length
 | [], l, _ => by simp [Lib.indexByte]
 | b :: a, l, h => by
   have h1 : ¬ b = 46 := fun e => h (by simp [e])
   have h2 := index_at (a := a) (l := l) fun e => h (by simp [e])
   have h3 : ¬ ((a.length : Int) = -1) := by omega
   simp [Lib.indexByte, h1, h2, h3]
theorem split_at : ∀ (l : List UInt8), 46 ∈ l → ∃ a b, l = a ++ 46 :: b ∧ 46 ∉ a
 | [], h => by cases h
 | x :: l, h => by
   by_cases e : x = 46
   ·subst e
    exact ⟨[], l, rfl, by simp⟩
   ·rcases List.mem_cons.1 h with h | h
    ·exact (e h.symm).elim
    ·obtain ⟨a, b, rfl, h2⟩ := split_at l h
     exact ⟨x :: a, b, rfl, by simp [h2, Ne.symm e]⟩
theorem pieceL_len : ∀ (l : List UInt8), (pieceL l).length = Lib.countByte l 46 + 1
 | [] => rfl
 | b :: l => by
   have ih := pieceL_len l
   unfold pieceL
   simp only [Lib.countByte, List.count_cons] at ih ⊢
   split
   ·rename_i e
    subst e
    simp [ih]
   ·rename_i e
    have hn := pieceL_ne l
    split
    ·contradiction
    ·rename_i p ps hp
     rw [hp] at ih
     simp [e] at ih ⊢
     omega
def pieceB (s : ByteArray) : List ByteArray := (pieceL s.data.toList).map toB
end Go.Av
