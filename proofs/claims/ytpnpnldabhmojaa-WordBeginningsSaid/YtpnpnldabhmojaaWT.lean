/- Part of a proof by symbolic walks on plain data. -/
import Derived.Test.YtpnpnldabhmojaaAvR
import Derived.Test.YtpnpnldabhmojaaProg
set_option linter.unusedVariables false
set_option linter.unusedSimpArgs false
namespace Go.Av
open Go Go.Proofs
@[go_sem] theorem ty_kindT_3 : kindT Try.prog 3 = some false := by kernel_rfl
@[go_sem] theorem ty_sizeT_3 : sizeT Try.prog 3 = some 1 := by kernel_rfl
@[go_sem] theorem ty_bytesT_3 : bytesT Try.prog 3 = some 8 := by kernel_rfl
@[go_sem] theorem ty_elT_3 : elT Try.prog 3 = none := by kernel_rfl
@[go_sem] theorem ty_arrT_3 : arrT Try.prog 3 = none := by kernel_rfl
@[go_sem] theorem ty_intT_3 : intT Try.prog 3 = some IntKind.i64 := by kernel_rfl
@[go_sem] theorem ty_zeroT_3 : zeroT Try.prog 3 = some [DV.int IntKind.i64 0] := by kernel_rfl
@[go_sem] theorem ty_placesT_3 : placesT Try.prog 3 = none := by kernel_rfl
@[go_sem] theorem ty_cmpT_3 : cmpT Try.prog 20 3 = some [(0, 0)] := by kernel_rfl
@[go_sem] theorem ty_kindT_4 : kindT Try.prog 4 = some false := by kernel_rfl
@[go_sem] theorem ty_sizeT_4 : sizeT Try.prog 4 = some 1 := by kernel_rfl
@[go_sem] theorem ty_bytesT_4 : bytesT Try.prog 4 = some 1 := by kernel_rfl
@[go_sem] theorem ty_elT_4 : elT Try.prog 4 = none := by kernel_rfl
@[go_sem] theorem ty_arrT_4 : arrT Try.prog 4 = none := by kernel_rfl
@[go_sem] theorem ty_boolT_4 : boolT Try.prog 4 = true := by kernel_rfl
@[go_sem] theorem ty_zeroT_4 : zeroT Try.prog 4 = some [DV.bool false] := by kernel_rfl
@[go_sem] theorem ty_placesT_4 : placesT Try.prog 4 = none := by kernel_rfl
@[go_sem] theorem ty_cmpT_4 : cmpT Try.prog 20 4 = some [(0, 1)] := by kernel_rfl
@[go_sem] theorem ty_kindT_5 : kindT Try.prog 5 = some false := by kernel_rfl
@[go_sem] theorem ty_sizeT_5 : sizeT Try.prog 5 = some 1 := by kernel_rfl
@[go_sem] theorem ty_bytesT_5 : bytesT Try.prog 5 = some 1 := by kernel_rfl
@[go_sem] theorem ty_elT_5 : elT Try.prog 5 = none := by kernel_rfl
@[go_sem] theorem ty_arrT_5 : arrT Try.prog 5 = none := by kernel_rfl
@[go_sem] theorem ty_intT_5 : intT Try.prog 5 = some IntKind.u8 := by kernel_rfl
@[go_sem] theorem ty_zeroT_5 : zeroT Try.prog 5 = some [DV.int IntKind.u8 0] := by kernel_rfl
@[go_sem] theorem ty_placesT_5 : placesT Try.prog 5 = none := by kernel_rfl
@[go_sem] theorem ty_cmpT_5 : cmpT Try.prog 20 5 = some [(0, 0)] := by kernel_rfl
@[go_sem] theorem ty_kindT_22 : kindT Try.prog 22 = some false := by kernel_rfl
@[go_sem] theorem ty_sizeT_22 : sizeT Try.prog 22 = some 1 := by kernel_rfl
@[go_sem] theorem ty_bytesT_22 : bytesT Try.prog 22 = some 24 := by kernel_rfl
@[go_sem] theorem ty_elT_22 : elT Try.prog 22 = some 32 := by kernel_rfl
@[go_sem] theorem ty_arrT_22 : arrT Try.prog 22 = none := by kernel_rfl
@[go_sem] theorem ty_zeroT_22 : zeroT Try.prog 22 = some [DV.nil] := by kernel_rfl
@[go_sem] theorem ty_placesT_22 : placesT Try.prog 22 = none := by kernel_rfl
@[go_sem] theorem ty_kindT_24 : kindT Try.prog 24 = some false := by kernel_rfl
@[go_sem] theorem ty_sizeT_24 : sizeT Try.prog 24 = some 1 := by kernel_rfl
@[go_sem] theorem ty_bytesT_24 : bytesT Try.prog 24 = some 24 := by kernel_rfl
@[go_sem] theorem ty_elT_24 : elT Try.prog 24 = some 29 := by kernel_rfl
@[go_sem] theorem ty_arrT_24 : arrT Try.prog 24 = none := by kernel_rfl
@[go_sem] theorem ty_zeroT_24 : zeroT Try.prog 24 = some [DV.nil] := by kernel_rfl
@[go_sem] theorem ty_placesT_24 : placesT Try.prog 24 = none := by kernel_rfl
@[go_sem] theorem ty_kindT_29 : kindT Try.prog 29 = some false := by kernel_rfl
@[go_sem] theorem ty_sizeT_29 : sizeT Try.prog 29 = some 1 := by kernel_rfl
@[go_sem] theorem ty_bytesT_29 : bytesT Try.prog 29 = some 24 := by kernel_rfl
@[go_sem] theorem ty_elT_29 : elT Try.prog 29 = some 44 := by kernel_rfl
@[go_sem] theorem ty_arrT_29 : arrT Try.prog 29 = none := by kernel_rfl
@[go_sem] theorem ty_zeroT_29 : zeroT Try.prog 29 = some [DV.nil] := by kernel_rfl
@[go_sem] theorem ty_placesT_29 : placesT Try.prog 29 = none := by kernel_rfl
@[go_sem] theorem ty_kindT_32 : kindT Try.prog 32 = some true := by kernel_rfl
@[go_sem] theorem ty_sizeT_32 : sizeT Try.prog 32 = some 3 := by kernel_rfl
@[go_sem] theorem ty_bytesT_32 : bytesT Try.prog 32 = some 24 := by kernel_rfl
@[go_sem] theorem ty_elT_32 : elT Try.prog 32 = none := by kernel_rfl
@[go_sem] theorem ty_arrT_32 : arrT Try.prog 32 = none := by kernel_rfl
@[go_sem] theorem ty_zeroT_32 : zeroT Try.prog 32 = some [DV.int IntKind.i64 0, DV.int IntKind.i64 0, DV.int IntKind.i64 0] := by kernel_rfl
@[go_sem] theorem ty_placesT_32 : placesT Try.prog 32 = some [(0, 1), (1, 1), (2, 1)] := by kernel_rfl
@[go_sem] theorem ty_cmpT_32 : cmpT Try.prog 20 32 = some [(0, 0), (1, 0), (2, 0)] := by kernel_rfl
@[go_sem] theorem ty_fldT0_32 : fldT Try.prog 32 0 = some (0, 3) := by kernel_rfl
@[go_sem] theorem ty_fldT1_32 : fldT Try.prog 32 1 = some (1, 3) := by kernel_rfl
@[go_sem] theorem ty_fldT2_32 : fldT Try.prog 32 2 = some (2, 3) := by kernel_rfl
@[go_sem] theorem ty_kindT_44 : kindT Try.prog 44 = some true := by kernel_rfl
@[go_sem] theorem ty_sizeT_44 : sizeT Try.prog 44 = some 5 := by kernel_rfl
@[go_sem] theorem ty_bytesT_44 : bytesT Try.prog 44 = some 56 := by kernel_rfl
@[go_sem] theorem ty_elT_44 : elT Try.prog 44 = none := by kernel_rfl
@[go_sem] theorem ty_arrT_44 : arrT Try.prog 44 = none := by kernel_rfl
@[go_sem] theorem ty_zeroT_44 : zeroT Try.prog 44 = some [DV.int IntKind.i64 0, DV.bool false, DV.int IntKind.i64 0, DV.int IntKind.i64 0, DV.nil] := by kernel_rfl
@[go_sem] theorem ty_placesT_44 : placesT Try.prog 44 = some [(0, 1), (1, 1), (2, 1), (3, 1), (4, 1)] := by kernel_rfl
@[go_sem] theorem ty_fldT0_44 : fldT Try.prog 44 0 = some (0, 3) := by kernel_rfl
@[go_sem] theorem ty_fldT1_44 : fldT Try.prog 44 1 = some (1, 4) := by kernel_rfl
@[go_sem] theorem ty_fldT2_44 : fldT Try.prog 44 2 = some (2, 3) := by kernel_rfl
@[go_sem] theorem ty_fldT3_44 : fldT Try.prog 44 3 = some (3, 3) := by kernel_rfl
@[go_sem] theorem ty_fldT4_44 : fldT Try.prog 44 4 = some (4, 42) := by kernel_rfl
@[go_sem] theorem ty_kindT_46 : kindT Try.prog 46 = some true := by kernel_rfl
@[go_sem] theorem ty_sizeT_46 : sizeT Try.prog 46 = some 6 := by kernel_rfl
@[go_sem] theorem ty_bytesT_46 : bytesT Try.prog 46 = some 6 := by kernel_rfl
@[go_sem] theorem ty_elT_46 : elT Try.prog 46 = none := by kernel_rfl
@[go_sem] theorem ty_arrT_46 : arrT Try.prog 46 = some (6, 5) := by kernel_rfl
@[go_sem] theorem ty_zeroT_46 : zeroT Try.prog 46 = some [DV.int IntKind.u8 0, DV.int IntKind.u8 0, DV.int IntKind.u8 0, DV.int IntKind.u8 0, DV.int IntKind.u8 0, DV.int IntKind.u8 0] := by kernel_rfl
@[go_sem] theorem ty_placesT_46 : placesT Try.prog 46 = none := by kernel_rfl
@[go_sem] theorem ty_kindT_51 : kindT Try.prog 51 = some false := by kernel_rfl
@[go_sem] theorem ty_sizeT_51 : sizeT Try.prog 51 = some 1 := by kernel_rfl
@[go_sem] theorem ty_bytesT_51 : bytesT Try.prog 51 = some 24 := by kernel_rfl
@[go_sem] theorem ty_elT_51 : elT Try.prog 51 = some 3 := by kernel_rfl
@[go_sem] theorem ty_arrT_51 : arrT Try.prog 51 = none := by kernel_rfl
@[go_sem] theorem ty_zeroT_51 : zeroT Try.prog 51 = some [DV.nil] := by kernel_rfl
@[go_sem] theorem ty_placesT_51 : placesT Try.prog 51 = none := by kernel_rfl
@[go_sem] theorem ty_kindT_55 : kindT Try.prog 55 = some true := by kernel_rfl
@[go_sem] theorem ty_sizeT_55 : sizeT Try.prog 55 = some 3 := by kernel_rfl
@[go_sem] theorem ty_bytesT_55 : bytesT Try.prog 55 = some 24 := by kernel_rfl
@[go_sem] theorem ty_elT_55 : elT Try.prog 55 = none := by kernel_rfl
@[go_sem] theorem ty_arrT_55 : arrT Try.prog 55 = some (3, 3) := by kernel_rfl
@[go_sem] theorem ty_zeroT_55 : zeroT Try.prog 55 = some [DV.int IntKind.i64 0, DV.int IntKind.i64 0, DV.int IntKind.i64 0] := by kernel_rfl
@[go_sem] theorem ty_placesT_55 : placesT Try.prog 55 = none := by kernel_rfl
end Go.Av
