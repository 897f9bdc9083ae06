/- Part of a proof. -/
import Derived.Test.YticeobjphcmggaaGreatDoorC0
import Derived.Test.YticeobjphcmggaaGreatDoorAvR
import Derived.Test.YticeobjphcmggaaGreatDoorProg
import Derived.Test.YticeobjphcmggaaGreatDoorF4
import Derived.Lib.Strings
import Derived.Lib.Slices
import Derived.Lib.Walk
import Derived.Lib.Bytealg
set_option linter.unusedVariables false
set_option linter.unusedSimpArgs false
set_option maxHeartbeats 64000000
set_option maxRecDepth 8000
namespace Go.Av
open Go Go.Proofs
@[go_sem] theorem ty_3 : kindT Tryz.prog 3 = some false /\ sizeT Tryz.prog 3 = some 1 /\ bytesT Tryz.prog 3 = some 8 /\ elT Tryz.prog 3 = none /\ arrT Tryz.prog 3 = none /\ intT Tryz.prog 3 = some IntKind.i64 /\ zeroT Tryz.prog 3 = some [DV.int IntKind.i64 0] /\ placesT Tryz.prog 3 = none /\ zero1 Tryz.prog 3 = some (KV.ki IntKind.i64 0) /\ cmpT Tryz.prog 20 3 = some [(0, 0)] := by and_intros <;> kernel_rfl
@[go_sem] theorem ty_4 : kindT Tryz.prog 4 = some false /\ sizeT Tryz.prog 4 = some 1 /\ bytesT Tryz.prog 4 = some 1 /\ elT Tryz.prog 4 = none /\ arrT Tryz.prog 4 = none /\ boolT Tryz.prog 4 = true /\ zeroT Tryz.prog 4 = some [DV.bool false] /\ placesT Tryz.prog 4 = none /\ zero1 Tryz.prog 4 = some (KV.kb false) /\ cmpT Tryz.prog 20 4 = some [(0, 1)] := by and_intros <;> kernel_rfl
@[go_sem] theorem ty_5 : kindT Tryz.prog 5 = some false /\ sizeT Tryz.prog 5 = some 1 /\ bytesT Tryz.prog 5 = some 1 /\ elT Tryz.prog 5 = none /\ arrT Tryz.prog 5 = none /\ intT Tryz.prog 5 = some IntKind.u8 /\ zeroT Tryz.prog 5 = some [DV.int IntKind.u8 0] /\ placesT Tryz.prog 5 = none /\ zero1 Tryz.prog 5 = some (KV.ki IntKind.u8 0) /\ cmpT Tryz.prog 20 5 = some [(0, 0)] := by and_intros <;> kernel_rfl
@[go_sem] theorem ty_9 : kindT Tryz.prog 9 = some false /\ sizeT Tryz.prog 9 = some 1 /\ bytesT Tryz.prog 9 = some 16 /\ elT Tryz.prog 9 = none /\ arrT Tryz.prog 9 = none /\ strT Tryz.prog 9 = true /\ zeroT Tryz.prog 9 = some [DV.str { data := #[] }] /\ placesT Tryz.prog 9 = none /\ zero1 Tryz.prog 9 = some (KV.ks { data := #[] }) /\ cmpT Tryz.prog 20 9 = some [(0, 2)] := by and_intros <;> kernel_rfl
@[go_sem] theorem ty_21 : kindT Tryz.prog 21 = some false /\ sizeT Tryz.prog 21 = some 1 /\ bytesT Tryz.prog 21 = some 4 /\ elT Tryz.prog 21 = none /\ arrT Tryz.prog 21 = none /\ intT Tryz.prog 21 = some IntKind.i32 /\ zeroT Tryz.prog 21 = some [DV.int IntKind.i32 0] /\ placesT Tryz.prog 21 = none /\ zero1 Tryz.prog 21 = some (KV.ki IntKind.i32 0) /\ cmpT Tryz.prog 20 21 = some [(0, 0)] := by and_intros <;> kernel_rfl
@[go_sem] theorem ty_22 : kindT Tryz.prog 22 = some false /\ sizeT Tryz.prog 22 = some 1 /\ bytesT Tryz.prog 22 = some 24 /\ elT Tryz.prog 22 = some 9 /\ arrT Tryz.prog 22 = none /\ zeroT Tryz.prog 22 = some [DV.nil] /\ placesT Tryz.prog 22 = none := by and_intros <;> kernel_rfl
@[go_sem] theorem ty_23 : kindT Tryz.prog 23 = some false /\ sizeT Tryz.prog 23 = some 1 /\ bytesT Tryz.prog 23 = some 24 /\ elT Tryz.prog 23 = some 61 /\ arrT Tryz.prog 23 = none /\ zeroT Tryz.prog 23 = some [DV.nil] /\ placesT Tryz.prog 23 = none := by and_intros <;> kernel_rfl
@[go_sem] theorem ty_24 : kindT Tryz.prog 24 = some false /\ sizeT Tryz.prog 24 = some 1 /\ bytesT Tryz.prog 24 = some 24 /\ elT Tryz.prog 24 = some 49 /\ arrT Tryz.prog 24 = none /\ zeroT Tryz.prog 24 = some [DV.nil] /\ placesT Tryz.prog 24 = none := by and_intros <;> kernel_rfl
@[go_sem] theorem ty_25 : kindT Tryz.prog 25 = some false /\ sizeT Tryz.prog 25 = some 1 /\ bytesT Tryz.prog 25 = some 24 /\ elT Tryz.prog 25 = some 142 /\ arrT Tryz.prog 25 = none /\ zeroT Tryz.prog 25 = some [DV.nil] /\ placesT Tryz.prog 25 = none := by and_intros <;> kernel_rfl
@[go_sem] theorem ty_27 : kindT Tryz.prog 27 = some true /\ sizeT Tryz.prog 27 = some 8 /\ bytesT Tryz.prog 27 = some 136 /\ elT Tryz.prog 27 = none /\ arrT Tryz.prog 27 = none /\ zeroT Tryz.prog 27 = some [DV.str { data := #[] }, DV.nil, DV.nil, DV.int IntKind.i64 0, DV.int IntKind.i64 0, DV.int IntKind.i64 0, DV.nil, DV.nil] /\ placesT Tryz.prog 27 = some [(0, 1), (1, 1), (2, 1), (3, 1), (4, 1), (5, 1), (6, 1), (7, 1)] /\ fldT Tryz.prog 27 0 = some (0, 9) /\ fldT Tryz.prog 27 1 = some (1, 22) /\ fldT Tryz.prog 27 2 = some (2, 23) /\ fldT Tryz.prog 27 3 = some (3, 3) /\ fldT Tryz.prog 27 4 = some (4, 3) /\ fldT Tryz.prog 27 5 = some (5, 3) /\ fldT Tryz.prog 27 6 = some (6, 24) /\ fldT Tryz.prog 27 7 = some (7, 25) := by and_intros <;> kernel_rfl
@[go_sem] theorem ty_28 : kindT Tryz.prog 28 = some false /\ sizeT Tryz.prog 28 = some 1 /\ bytesT Tryz.prog 28 = some 24 /\ elT Tryz.prog 28 = some 37 /\ arrT Tryz.prog 28 = none /\ zeroT Tryz.prog 28 = some [DV.nil] /\ placesT Tryz.prog 28 = none := by and_intros <;> kernel_rfl
@[go_sem] theorem ty_31 : kindT Tryz.prog 31 = some false /\ sizeT Tryz.prog 31 = some 1 /\ bytesT Tryz.prog 31 = some 24 /\ elT Tryz.prog 31 = some 47 /\ arrT Tryz.prog 31 = none /\ zeroT Tryz.prog 31 = some [DV.nil] /\ placesT Tryz.prog 31 = none := by and_intros <;> kernel_rfl
@[go_sem] theorem ty_32 : kindT Tryz.prog 32 = some false /\ sizeT Tryz.prog 32 = some 1 /\ bytesT Tryz.prog 32 = some 8 /\ elT Tryz.prog 32 = none /\ arrT Tryz.prog 32 = none /\ intT Tryz.prog 32 = some IntKind.i64 /\ zeroT Tryz.prog 32 = some [DV.int IntKind.i64 0] /\ placesT Tryz.prog 32 = none /\ zero1 Tryz.prog 32 = some (KV.ki IntKind.i64 0) /\ cmpT Tryz.prog 20 32 = some [(0, 0)] := by and_intros <;> kernel_rfl
@[go_sem] theorem ty_37 : kindT Tryz.prog 37 = some false /\ sizeT Tryz.prog 37 = some 1 /\ bytesT Tryz.prog 37 = some 24 /\ elT Tryz.prog 37 = some 64 /\ arrT Tryz.prog 37 = none /\ zeroT Tryz.prog 37 = some [DV.nil] /\ placesT Tryz.prog 37 = none := by and_intros <;> kernel_rfl
@[go_sem] theorem ty_45 : kindT Tryz.prog 45 = some true /\ sizeT Tryz.prog 45 = some 6 /\ bytesT Tryz.prog 45 = some 6 /\ elT Tryz.prog 45 = none /\ arrT Tryz.prog 45 = some (6, 5) /\ zeroT Tryz.prog 45 = some [DV.int IntKind.u8 0, DV.int IntKind.u8 0, DV.int IntKind.u8 0, DV.int IntKind.u8 0, DV.int IntKind.u8 0, DV.int IntKind.u8 0] /\ placesT Tryz.prog 45 = none /\ cmpT Tryz.prog 20 45 = some [(0, 0), (1, 0), (2, 0), (3, 0), (4, 0), (5, 0)] := by and_intros <;> kernel_rfl
@[go_sem] theorem ty_47 : kindT Tryz.prog 47 = some true /\ sizeT Tryz.prog 47 = some 3 /\ bytesT Tryz.prog 47 = some 24 /\ elT Tryz.prog 47 = none /\ arrT Tryz.prog 47 = none /\ zeroT Tryz.prog 47 = some [DV.int IntKind.i64 0, DV.int IntKind.i64 0, DV.int IntKind.i64 0] /\ placesT Tryz.prog 47 = some [(0, 1), (1, 1), (2, 1)] /\ cmpT Tryz.prog 20 47 = some [(0, 0), (1, 0), (2, 0)] /\ fldT Tryz.prog 47 0 = some (0, 3) /\ fldT Tryz.prog 47 1 = some (1, 3) /\ fldT Tryz.prog 47 2 = some (2, 3) := by and_intros <;> kernel_rfl
@[go_sem] theorem ty_49 : kindT Tryz.prog 49 = some true /\ sizeT Tryz.prog 49 = some 6 /\ bytesT Tryz.prog 49 = some 48 /\ elT Tryz.prog 49 = none /\ arrT Tryz.prog 49 = none /\ zeroT Tryz.prog 49 = some [DV.int IntKind.i64 0, DV.int IntKind.i64 0, DV.int IntKind.i64 0, DV.int IntKind.i64 0, DV.int IntKind.i64 0, DV.bool false] /\ placesT Tryz.prog 49 = some [(0, 1), (1, 3), (4, 1), (5, 1)] /\ cmpT Tryz.prog 20 49 = some [(0, 0), (1, 0), (2, 0), (3, 0), (4, 0), (5, 1)] /\ fldT Tryz.prog 49 0 = some (0, 3) /\ fldT Tryz.prog 49 1 = some (1, 47) /\ fldT Tryz.prog 49 2 = some (4, 3) /\ fldT Tryz.prog 49 3 = some (5, 4) := by and_intros <;> kernel_rfl
@[go_sem] theorem ty_55 : kindT Tryz.prog 55 = some false /\ sizeT Tryz.prog 55 = some 1 /\ bytesT Tryz.prog 55 = some 24 /\ elT Tryz.prog 55 = some 134 /\ arrT Tryz.prog 55 = none /\ zeroT Tryz.prog 55 = some [DV.nil] /\ placesT Tryz.prog 55 = none := by and_intros <;> kernel_rfl
@[go_sem] theorem ty_56 : kindT Tryz.prog 56 = some false /\ sizeT Tryz.prog 56 = some 1 /\ bytesT Tryz.prog 56 = some 24 /\ elT Tryz.prog 56 = some 154 /\ arrT Tryz.prog 56 = none /\ zeroT Tryz.prog 56 = some [DV.nil] /\ placesT Tryz.prog 56 = none := by and_intros <;> kernel_rfl
@[go_sem] theorem ty_57 : kindT Tryz.prog 57 = some false /\ sizeT Tryz.prog 57 = some 1 /\ bytesT Tryz.prog 57 = some 24 /\ elT Tryz.prog 57 = some 155 /\ arrT Tryz.prog 57 = none /\ zeroT Tryz.prog 57 = some [DV.nil] /\ placesT Tryz.prog 57 = none := by and_intros <;> kernel_rfl
@[go_sem] theorem ty_59 : kindT Tryz.prog 59 = some true /\ sizeT Tryz.prog 59 = some 2 /\ bytesT Tryz.prog 59 = some 48 /\ elT Tryz.prog 59 = none /\ arrT Tryz.prog 59 = none /\ zeroT Tryz.prog 59 = some [DV.nil, DV.nil] /\ placesT Tryz.prog 59 = some [(0, 1), (1, 1)] /\ fldT Tryz.prog 59 0 = some (0, 56) /\ fldT Tryz.prog 59 1 = some (1, 57) := by and_intros <;> kernel_rfl
@[go_sem] theorem ty_61 : kindT Tryz.prog 61 = some true /\ sizeT Tryz.prog 61 = some 5 /\ bytesT Tryz.prog 61 = some 96 /\ elT Tryz.prog 61 = none /\ arrT Tryz.prog 61 = none /\ zeroT Tryz.prog 61 = some [DV.str { data := #[] }, DV.nil, DV.int IntKind.i64 0, DV.nil, DV.nil] /\ placesT Tryz.prog 61 = some [(0, 1), (1, 1), (2, 1), (3, 2)] /\ fldT Tryz.prog 61 0 = some (0, 9) /\ fldT Tryz.prog 61 1 = some (1, 55) /\ fldT Tryz.prog 61 2 = some (2, 3) /\ fldT Tryz.prog 61 3 = some (3, 59) := by and_intros <;> kernel_rfl
@[go_sem] theorem ty_62 : kindT Tryz.prog 62 = some false /\ sizeT Tryz.prog 62 = some 1 /\ bytesT Tryz.prog 62 = some 24 /\ elT Tryz.prog 62 = some 111 /\ arrT Tryz.prog 62 = none /\ zeroT Tryz.prog 62 = some [DV.nil] /\ placesT Tryz.prog 62 = none := by and_intros <;> kernel_rfl
@[go_sem] theorem ty_64 : kindT Tryz.prog 64 = some true /\ sizeT Tryz.prog 64 = some 5 /\ bytesT Tryz.prog 64 = some 56 /\ elT Tryz.prog 64 = none /\ arrT Tryz.prog 64 = none /\ zeroT Tryz.prog 64 = some [DV.int IntKind.i64 0, DV.bool false, DV.int IntKind.i64 0, DV.int IntKind.i64 0, DV.nil] /\ placesT Tryz.prog 64 = some [(0, 1), (1, 1), (2, 1), (3, 1), (4, 1)] /\ fldT Tryz.prog 64 0 = some (0, 3) /\ fldT Tryz.prog 64 1 = some (1, 4) /\ fldT Tryz.prog 64 2 = some (2, 3) /\ fldT Tryz.prog 64 3 = some (3, 3) /\ fldT Tryz.prog 64 4 = some (4, 62) := by and_intros <;> kernel_rfl
@[go_sem] theorem ty_66 : kindT Tryz.prog 66 = some false /\ sizeT Tryz.prog 66 = some 1 /\ bytesT Tryz.prog 66 = some 24 /\ elT Tryz.prog 66 = some 3 /\ arrT Tryz.prog 66 = none /\ zeroT Tryz.prog 66 = some [DV.nil] /\ placesT Tryz.prog 66 = none := by and_intros <;> kernel_rfl
@[go_sem] theorem ty_69 : kindT Tryz.prog 69 = some true /\ sizeT Tryz.prog 69 = some 2 /\ bytesT Tryz.prog 69 = some 2 /\ elT Tryz.prog 69 = none /\ arrT Tryz.prog 69 = some (2, 4) /\ zeroT Tryz.prog 69 = some [DV.bool false, DV.bool false] /\ placesT Tryz.prog 69 = none /\ cmpT Tryz.prog 20 69 = some [(0, 1), (1, 1)] := by and_intros <;> kernel_rfl
@[go_sem] theorem ty_75 : kindT Tryz.prog 75 = some false /\ sizeT Tryz.prog 75 = some 1 /\ bytesT Tryz.prog 75 = some 24 /\ elT Tryz.prog 75 = some 4 /\ arrT Tryz.prog 75 = none /\ zeroT Tryz.prog 75 = some [DV.nil] /\ placesT Tryz.prog 75 = none := by and_intros <;> kernel_rfl
@[go_sem] theorem ty_85 : kindT Tryz.prog 85 = some true /\ sizeT Tryz.prog 85 = some 6 /\ bytesT Tryz.prog 85 = some 48 /\ elT Tryz.prog 85 = none /\ arrT Tryz.prog 85 = some (6, 3) /\ zeroT Tryz.prog 85 = some [DV.int IntKind.i64 0, DV.int IntKind.i64 0, DV.int IntKind.i64 0, DV.int IntKind.i64 0, DV.int IntKind.i64 0, DV.int IntKind.i64 0] /\ placesT Tryz.prog 85 = none /\ cmpT Tryz.prog 20 85 = some [(0, 0), (1, 0), (2, 0), (3, 0), (4, 0), (5, 0)] := by and_intros <;> kernel_rfl
@[go_sem] theorem ty_87 : kindT Tryz.prog 87 = some true /\ sizeT Tryz.prog 87 = some 7 /\ bytesT Tryz.prog 87 = some 56 /\ elT Tryz.prog 87 = none /\ arrT Tryz.prog 87 = none /\ zeroT Tryz.prog 87 = some [DV.int IntKind.i64 0, DV.int IntKind.i64 0, DV.int IntKind.i64 0, DV.int IntKind.i64 0, DV.int IntKind.i64 0, DV.int IntKind.i64 0, DV.int IntKind.i64 0] /\ placesT Tryz.prog 87 = some [(0, 1), (1, 6)] /\ cmpT Tryz.prog 20 87 = some [(0, 0), (1, 0), (2, 0), (3, 0), (4, 0), (5, 0), (6, 0)] /\ fldT Tryz.prog 87 0 = some (0, 3) /\ fldT Tryz.prog 87 1 = some (1, 85) := by and_intros <;> kernel_rfl
@[go_sem] theorem ty_88 : kindT Tryz.prog 88 = some false /\ sizeT Tryz.prog 88 = some 1 /\ bytesT Tryz.prog 88 = some 24 /\ elT Tryz.prog 88 = some 66 /\ arrT Tryz.prog 88 = none /\ zeroT Tryz.prog 88 = some [DV.nil] /\ placesT Tryz.prog 88 = none := by and_intros <;> kernel_rfl
@[go_sem] theorem ty_90 : kindT Tryz.prog 90 = some false /\ sizeT Tryz.prog 90 = some 1 /\ bytesT Tryz.prog 90 = some 24 /\ elT Tryz.prog 90 = some 87 /\ arrT Tryz.prog 90 = none /\ zeroT Tryz.prog 90 = some [DV.nil] /\ placesT Tryz.prog 90 = none := by and_intros <;> kernel_rfl
@[go_sem] theorem ty_92 : kindT Tryz.prog 92 = some true /\ sizeT Tryz.prog 92 = some 2 /\ bytesT Tryz.prog 92 = some 16 /\ elT Tryz.prog 92 = none /\ arrT Tryz.prog 92 = none /\ zeroT Tryz.prog 92 = some [DV.int IntKind.i64 0, DV.int IntKind.i64 0] /\ placesT Tryz.prog 92 = some [(0, 1), (1, 1)] /\ cmpT Tryz.prog 20 92 = some [(0, 0), (1, 0)] /\ fldT Tryz.prog 92 0 = some (0, 3) /\ fldT Tryz.prog 92 1 = some (1, 3) := by and_intros <;> kernel_rfl
@[go_sem] theorem ty_93 : kindT Tryz.prog 93 = some false /\ sizeT Tryz.prog 93 = some 1 /\ bytesT Tryz.prog 93 = some 24 /\ elT Tryz.prog 93 = some 92 /\ arrT Tryz.prog 93 = none /\ zeroT Tryz.prog 93 = some [DV.nil] /\ placesT Tryz.prog 93 = none := by and_intros <;> kernel_rfl
@[go_sem] theorem ty_94 : kindT Tryz.prog 94 = some false /\ sizeT Tryz.prog 94 = some 1 /\ bytesT Tryz.prog 94 = some 8 /\ elT Tryz.prog 94 = none /\ arrT Tryz.prog 94 = none /\ zeroT Tryz.prog 94 = some [DV.raw (Value.map none)] /\ placesT Tryz.prog 94 = none /\ mapT Tryz.prog 94 = some (87, 4) := by and_intros <;> kernel_rfl
@[go_sem] theorem ty_98 : kindT Tryz.prog 98 = some true /\ sizeT Tryz.prog 98 = some 4 /\ bytesT Tryz.prog 98 = some 48 /\ elT Tryz.prog 98 = none /\ arrT Tryz.prog 98 = none /\ zeroT Tryz.prog 98 = some [DV.int IntKind.i64 0, DV.nil, DV.int IntKind.i64 0, DV.int IntKind.i64 0] /\ placesT Tryz.prog 98 = some [(0, 1), (1, 1), (2, 1), (3, 1)] /\ fldT Tryz.prog 98 0 = some (0, 3) /\ fldT Tryz.prog 98 1 = some (1, 66) /\ fldT Tryz.prog 98 2 = some (2, 3) /\ fldT Tryz.prog 98 3 = some (3, 3) := by and_intros <;> kernel_rfl
@[go_sem] theorem ty_99 : kindT Tryz.prog 99 = some false /\ sizeT Tryz.prog 99 = some 1 /\ bytesT Tryz.prog 99 = some 24 /\ elT Tryz.prog 99 = some 98 /\ arrT Tryz.prog 99 = none /\ zeroT Tryz.prog 99 = some [DV.nil] /\ placesT Tryz.prog 99 = none := by and_intros <;> kernel_rfl
@[go_sem] theorem ty_111 : kindT Tryz.prog 111 = some true /\ sizeT Tryz.prog 111 = some 3 /\ bytesT Tryz.prog 111 = some 32 /\ elT Tryz.prog 111 = none /\ arrT Tryz.prog 111 = none /\ zeroT Tryz.prog 111 = some [DV.int IntKind.i64 0, DV.int IntKind.i64 0, DV.str { data := #[] }] /\ placesT Tryz.prog 111 = some [(0, 1), (1, 1), (2, 1)] /\ cmpT Tryz.prog 20 111 = some [(0, 0), (1, 0), (2, 2)] /\ fldT Tryz.prog 111 0 = some (0, 3) /\ fldT Tryz.prog 111 1 = some (1, 3) /\ fldT Tryz.prog 111 2 = some (2, 9) := by and_intros <;> kernel_rfl
@[go_sem] theorem ty_117 : kindT Tryz.prog 117 = some false /\ sizeT Tryz.prog 117 = some 1 /\ bytesT Tryz.prog 117 = some 8 /\ elT Tryz.prog 117 = none /\ arrT Tryz.prog 117 = none /\ placesT Tryz.prog 117 = none := by and_intros <;> kernel_rfl
@[go_sem] theorem ty_132 : kindT Tryz.prog 132 = some true /\ sizeT Tryz.prog 132 = some 3 /\ bytesT Tryz.prog 132 = some 24 /\ elT Tryz.prog 132 = none /\ arrT Tryz.prog 132 = none /\ zeroT Tryz.prog 132 = some [DV.int IntKind.i64 0, DV.int IntKind.i64 0, DV.int IntKind.i64 0] /\ placesT Tryz.prog 132 = some [(0, 1), (1, 1), (2, 1)] /\ cmpT Tryz.prog 20 132 = some [(0, 0), (1, 0), (2, 0)] /\ fldT Tryz.prog 132 0 = some (0, 3) /\ fldT Tryz.prog 132 1 = some (1, 3) /\ fldT Tryz.prog 132 2 = some (2, 3) := by and_intros <;> kernel_rfl
@[go_sem] theorem ty_134 : kindT Tryz.prog 134 = some true /\ sizeT Tryz.prog 134 = some 4 /\ bytesT Tryz.prog 134 = some 40 /\ elT Tryz.prog 134 = none /\ arrT Tryz.prog 134 = none /\ zeroT Tryz.prog 134 = some [DV.str { data := #[] }, DV.int IntKind.i64 0, DV.int IntKind.i64 0, DV.int IntKind.i64 0] /\ placesT Tryz.prog 134 = some [(0, 1), (1, 3)] /\ cmpT Tryz.prog 20 134 = some [(0, 2), (1, 0), (2, 0), (3, 0)] /\ fldT Tryz.prog 134 0 = some (0, 9) /\ fldT Tryz.prog 134 1 = some (1, 132) := by and_intros <;> kernel_rfl
@[go_sem] theorem ty_142 : kindT Tryz.prog 142 = some true /\ sizeT Tryz.prog 142 = some 3 /\ bytesT Tryz.prog 142 = some 24 /\ elT Tryz.prog 142 = none /\ arrT Tryz.prog 142 = none /\ zeroT Tryz.prog 142 = some [DV.int IntKind.i64 0, DV.int IntKind.i64 0, DV.int IntKind.i64 0] /\ placesT Tryz.prog 142 = some [(0, 1), (1, 1), (2, 1)] /\ cmpT Tryz.prog 20 142 = some [(0, 0), (1, 0), (2, 0)] /\ fldT Tryz.prog 142 0 = some (0, 3) /\ fldT Tryz.prog 142 1 = some (1, 3) /\ fldT Tryz.prog 142 2 = some (2, 3) := by and_intros <;> kernel_rfl
@[go_sem] theorem ty_145 : kindT Tryz.prog 145 = some true /\ sizeT Tryz.prog 145 = some 3 /\ bytesT Tryz.prog 145 = some 24 /\ elT Tryz.prog 145 = none /\ arrT Tryz.prog 145 = some (3, 3) /\ zeroT Tryz.prog 145 = some [DV.int IntKind.i64 0, DV.int IntKind.i64 0, DV.int IntKind.i64 0] /\ placesT Tryz.prog 145 = none /\ cmpT Tryz.prog 20 145 = some [(0, 0), (1, 0), (2, 0)] := by and_intros <;> kernel_rfl
@[go_sem] theorem ty_154 : kindT Tryz.prog 154 = some true /\ sizeT Tryz.prog 154 = some 3 /\ bytesT Tryz.prog 154 = some 24 /\ elT Tryz.prog 154 = none /\ arrT Tryz.prog 154 = none /\ zeroT Tryz.prog 154 = some [DV.int IntKind.i64 0, DV.int IntKind.i64 0, DV.int IntKind.i64 0] /\ placesT Tryz.prog 154 = some [(0, 1), (1, 1), (2, 1)] /\ cmpT Tryz.prog 20 154 = some [(0, 0), (1, 0), (2, 0)] /\ fldT Tryz.prog 154 0 = some (0, 3) /\ fldT Tryz.prog 154 1 = some (1, 3) /\ fldT Tryz.prog 154 2 = some (2, 3) := by and_intros <;> kernel_rfl
@[go_sem] theorem ty_155 : kindT Tryz.prog 155 = some true /\ sizeT Tryz.prog 155 = some 2 /\ bytesT Tryz.prog 155 = some 16 /\ elT Tryz.prog 155 = none /\ arrT Tryz.prog 155 = some (2, 3) /\ zeroT Tryz.prog 155 = some [DV.int IntKind.i64 0, DV.int IntKind.i64 0] /\ placesT Tryz.prog 155 = none /\ cmpT Tryz.prog 20 155 = some [(0, 0), (1, 0)] := by and_intros <;> kernel_rfl
@[go_sem] theorem ty_158 : kindT Tryz.prog 158 = some true /\ sizeT Tryz.prog 158 = some 28 /\ bytesT Tryz.prog 158 = some 448 /\ elT Tryz.prog 158 = none /\ arrT Tryz.prog 158 = some (28, 9) /\ zeroT Tryz.prog 158 = some [DV.str { data := #[] }, DV.str { data := #[] }, DV.str { data := #[] }, DV.str { data := #[] }, DV.str { data := #[] }, DV.str { data := #[] }, DV.str { data := #[] }, DV.str { data := #[] }, DV.str { data := #[] }, DV.str { data := #[] }, DV.str { data := #[] }, DV.str { data := #[] }, DV.str { data := #[] }, DV.str { data := #[] }, DV.str { data := #[] }, DV.str { data := #[] }, DV.str { data := #[] }, DV.str { data := #[] }, DV.str { data := #[] }, DV.str { data := #[] }, DV.str { data := #[] }, DV.str { data := #[] }, DV.str { data := #[] }, DV.str { data := #[] }, DV.str { data := #[] }, DV.str { data := #[] }, DV.str { data := #[] }, DV.str { data := #[] }] /\ placesT Tryz.prog 158 = none /\ cmpT Tryz.prog 20 158 = some [(0, 2), (1, 2), (2, 2), (3, 2), (4, 2), (5, 2), (6, 2), (7, 2), (8, 2), (9, 2), (10, 2), (11, 2), (12, 2), (13, 2), (14, 2), (15, 2), (16, 2), (17, 2), (18, 2), (19, 2), (20, 2), (21, 2), (22, 2), (23, 2), (24, 2), (25, 2), (26, 2), (27, 2)] := by and_intros <;> kernel_rfl
@[go_sem] theorem ty_160 : kindT Tryz.prog 160 = some false /\ sizeT Tryz.prog 160 = some 1 /\ bytesT Tryz.prog 160 = some 8 /\ elT Tryz.prog 160 = none /\ arrT Tryz.prog 160 = none /\ intT Tryz.prog 160 = some IntKind.u64 /\ zeroT Tryz.prog 160 = some [DV.int IntKind.u64 0] /\ placesT Tryz.prog 160 = none /\ zero1 Tryz.prog 160 = some (KV.ki IntKind.u64 0) /\ cmpT Tryz.prog 20 160 = some [(0, 0)] := by and_intros <;> kernel_rfl
@[go_sem] theorem ty_176 : kindT Tryz.prog 176 = some false /\ sizeT Tryz.prog 176 = some 1 /\ bytesT Tryz.prog 176 = some 4 /\ elT Tryz.prog 176 = none /\ arrT Tryz.prog 176 = none /\ intT Tryz.prog 176 = some IntKind.u32 /\ zeroT Tryz.prog 176 = some [DV.int IntKind.u32 0] /\ placesT Tryz.prog 176 = none /\ zero1 Tryz.prog 176 = some (KV.ki IntKind.u32 0) /\ cmpT Tryz.prog 20 176 = some [(0, 0)] := by and_intros <;> kernel_rfl
@[go_sem] theorem ty_179 : kindT Tryz.prog 179 = some false /\ sizeT Tryz.prog 179 = some 1 /\ bytesT Tryz.prog 179 = some 8 /\ elT Tryz.prog 179 = none /\ arrT Tryz.prog 179 = none /\ intT Tryz.prog 179 = some IntKind.u64 /\ zeroT Tryz.prog 179 = some [DV.int IntKind.u64 0] /\ placesT Tryz.prog 179 = none /\ zero1 Tryz.prog 179 = some (KV.ki IntKind.u64 0) /\ cmpT Tryz.prog 20 179 = some [(0, 0)] := by and_intros <;> kernel_rfl
end Go.Av
namespace Go.Av
open Go Go.RowKit Go.Proofs
set_option maxHeartbeats 64000000
structure Inter where
 from_ : Int
 to : Int
 label : Int
 deriving DecidableEq
def encI (x : Inter) : List DV := [.int .i64 x.from_, .int .i64 x.to, .int .i64 x.label]
structure Ev where
 role : Int
 send : Bool
 peer : Int
 label : Int
 vals : Option (List (List DV))
def valsDV : Option (List (List DV)) -> DV
 | none => .nil
 | some els => .sl els
@[go_sem ↓ high] theorem flat_vals (o : Option (List (List DV))) : (valsDV o).flat = true := by cases o <;> rfl
@[go_sem ↓ high] theorem frz_vals (o : Option (List (List DV))) : (valsDV o).frz = valsDV o := by cases o <;> rfl
def encE (x : Ev) : List DV := [.int .i64 x.role, .bool x.send, .int .i64 x.peer, .int .i64 x.label, valsDV x.vals]
def encH (x : List Ev) : List DV := [.sl (x.map encE)]
def encN (x : Int) : List DV := [.int .i64 x]
@[go_sem ↓ high] theorem frz_encI (x : Inter) : frzL (encI x) = encI x := by simp [encI, frzL, DV.frz]
@[go_sem ↓ high] theorem frz_encE (x : Ev) : frzL (encE x) = encE x := by simp [encE, frzL, DV.frz, frz_vals]
@[go_sem ↓ high] theorem frz_encN (x : Int) : frzL (encN x) = encN x := by simp [encN, frzL, DV.frz]
@[go_sem ↓ high] theorem frz_encH (x : List Ev) : frzL (encH x) = encH x := by simp [encH, frzL, DV.frz]
theorem all_succ {α : Type} {p : α -> Bool} {l : List α} {k : Nat} (h : k < l.length) : (l.take (k + 1)).all p = ((l.take k).all p && p l[k]) := by
 rw [List.take_succ_eq_append_getElem h, List.all_append]
 simp
theorem all_no {α : Type} {p : α -> Bool} {l : List α} {k : Nat} (h : k < l.length) (hb : p l[k] = false) : l.all p = false := by
 rw [List.all_eq_false]
 exact ⟨_, List.getElem_mem h, by simp [hb]⟩
@[go_sem] theorem frzLL_append : ∀ (l m : List (List DV)), frzLL (l ++ m) = frzLL l ++ frzLL m
 | [], m => rfl
 | x :: l, m => by simp [frzLL, frzLL_append l m]
@[go_sem] theorem clo_encI (l : List Inter) : clo (l.map encI) ↔ True := by
 simp only [iff_true]
 intro e he d hd
 obtain ⟨x, _, rfl⟩ := List.mem_map.1 he
 simp only [encI, List.mem_cons, List.not_mem_nil, or_false] at hd
 rcases hd with rfl | rfl | rfl <;> exact .int _ _
@[go_sem] theorem clo_encN (l : List Int) : clo (l.map encN) ↔ True := by
 simp only [iff_true]
 intro e he d hd
 obtain ⟨x, _, rfl⟩ := List.mem_map.1 he
 simp only [encN, List.mem_cons, List.not_mem_nil, or_false] at hd
 subst hd
 exact .int _ _
theorem clo_encE {l : List Ev} (h : ∀ x ∈ l, x.vals = none) : clo (l.map encE) := by
 intro e he d hd
 obtain ⟨x, hx, rfl⟩ := List.mem_map.1 he
 simp only [encE, List.mem_cons, List.not_mem_nil, or_false, h x hx, valsDV] at hd
 rcases hd with rfl | rfl | rfl | rfl | rfl <;> first | exact .int _ _ | exact .bool _ | exact .nil
theorem mem_encI {x : Inter} {d : DV} (h : d ∈ encI x) : d.flat = true := by
 simp only [encI, List.mem_cons, List.not_mem_nil, or_false] at h
 rcases h with rfl | rfl | rfl <;> rfl
theorem okI_of {els news : List (List DV)} (h1 : ∀ e ∈ news, ∃ x, e = encI x) (h2 : els.length + news.length <= 1000000000) : z_f 3 24 els news := by
 refine ⟨fun e he => ?_, fun e he => ?_, by omega, by unfold maxLen; omega, by omega⟩
 ·obtain ⟨x, rfl⟩ := h1 e he
  rw [List.all_eq_true]
  exact fun d hd => mem_encI hd
 ·obtain ⟨x, rfl⟩ := h1 e he
  rfl
set_option maxHeartbeats 64000000
theorem bytes_eq (a b : ByteArray) : (a == b) = decide (a = b) := by
 obtain ⟨a⟩ := a
 obtain ⟨b⟩ := b
 show ByteArray.beq ⟨a⟩ ⟨b⟩ = _
 unfold ByteArray.beq
 simp
 rw [Bool.eq_iff_iff]
 simp
def isDigit (c : Int) : Bool := decide (48 <= c) && decide (c <= 57)
def isLetter (c : Int) : Bool := (decide (97 <= c) && decide (c <= 122)) || (decide (65 <= c) && decide (c <= 90))
def isInner (c : Int) : Bool := isLetter c || isDigit c || decide (c = 95)
theorem f155 (c : Int) : Impl Tryz.prog 155 [.one (.int .u8 c)] (.one (.one (.bool (isDigit c)))) := by
 refine impl_intro z155.f z155.b rfl z155.r z155.n z155.t z155.d (by simp) fun hs => ?_
 simp only [slotsOf]
 conv => arg 2; reduce
 refine wN ?_
 simp [go_sem, isDigit]
theorem f157 (c : Int) : Impl Tryz.prog 157 [.one (.int .u8 c)] (.one (.one (.bool (isDigit c)))) := by
 refine impl_intro z157.f z157.b rfl z157.r z157.n z157.t z157.d (by simp) fun hs => ?_
 simp only [slotsOf]
 conv => arg 2; reduce
 refine wN ?_
 simp [go_sem, isDigit]
theorem f140 (c : Int) : Impl Tryz.prog 140 [.one (.int .u8 c)] (.one (.one (.bool (isLetter c)))) := by
 refine impl_intro z140.f z140.b rfl z140.r z140.n z140.t z140.d (by simp) fun hs => ?_
 simp only [slotsOf]
 conv => arg 2; reduce
 refine wN ?_
 simp [go_sem, isLetter]
theorem f145 (c : Int) : Impl Tryz.prog 145 [.one (.int .u8 c)] (.one (.one (.bool (isLetter c)))) := by
 refine impl_intro z145.f z145.b rfl z145.r z145.n z145.t z145.d (by simp) fun hs => ?_
 simp only [slotsOf]
 conv => arg 2; reduce
 refine wN ?_
 simp [go_sem, isLetter]
theorem f141 (c : Int) : Impl Tryz.prog 141 [.one (.int .u8 c)] (.one (.one (.bool (isInner c)))) := by
 refine impl_intro z141.f z141.b rfl z141.r z141.n z141.t z141.d (by simp) fun hs => ?_
 simp only [slotsOf]
 conv => arg 2; reduce
 cases hl : isLetter c with
 | true =>
   refine wV hl (f140 c) ?_
   simp [go_sem, isInner, hl]
 | false =>
   refine wV hl (aN (f140 c) (f155 c)) ?_
   simp [go_sem, isInner, hl]
   rfl
theorem f146 (c : Int) : Impl Tryz.prog 146 [.one (.int .u8 c)] (.one (.one (.bool (isInner c)))) := by
 refine impl_intro z146.f z146.b rfl z146.r z146.n z146.t z146.d (by simp) fun hs => ?_
 simp only [slotsOf]
 conv => arg 2; reduce
 cases hl : isLetter c with
 | true =>
   refine wV hl (f145 c) ?_
   simp [go_sem, isInner, hl]
 | false =>
   refine wV hl (aN (f145 c) (f157 c)) ?_
   simp [go_sem, isInner, hl]
   rfl
set_option maxHeartbeats 64000000
def encS (x : ByteArray) : List DV := [.str x]
def strL (s : ByteArray) : List Int := s.data.toList.map fun b => (b.toNat : Int)
theorem strL_len (s : ByteArray) : (strL s).length = s.size := by simp [strL]
theorem strL_get {s : ByteArray} {k : Nat} (h : k < s.size) : ∃ b : UInt8, s[k]? = some b /\ (b.toNat : Int) = (strL s)[k]'(by rw [strL_len]; exact h) := by
 refine ⟨s[k], by simp [h], ?_⟩
 simp [strL, ByteArray.getElem_eq_getElem_data]
theorem strL_at {s : ByteArray} {k : Nat} (h : k < s.size) : ((s[k]).toNat : Int) = (strL s)[k]'(by rw [strL_len]; exact h) := by
 simp [strL, ByteArray.getElem_eq_getElem_data]
theorem str_empty (s : ByteArray) : (s == ⟨#[]⟩) = decide (s.size = 0) := by
 rw [bytes_eq]
 by_cases h : s = ⟨#[]⟩
 ·subst h; rfl
 ·simp only [h, decide_false]
  symm
  rw [decide_eq_false_iff_not]
  intro h0
  apply h
  obtain ⟨d⟩ := s
  congr 1
  exact Array.eq_empty_of_size_eq_zero h0
def kws : List ByteArray := [⟨#[97, 103, 97, 105, 110]⟩, ⟨#[97, 110, 100]⟩, ⟨#[97, 115]⟩, ⟨#[97, 116]⟩, ⟨#[99, 97, 108, 108]⟩, ⟨#[99, 104, 111, 105, 99, 101]⟩, ⟨#[101, 108, 115, 101]⟩, ⟨#[102, 114, 111, 109]⟩, ⟨#[105, 102]⟩, ⟨#[105, 110, 116]⟩, ⟨#[108, 101, 110]⟩, ⟨#[108, 111, 111, 112]⟩, ⟨#[109, 101, 115, 115, 97, 103, 101]⟩, ⟨#[111, 102]⟩, ⟨#[111, 102, 102, 101, 114]⟩, ⟨#[111, 110]⟩, ⟨#[111, 114]⟩, ⟨#[112, 97, 114]⟩, ⟨#[112, 108, 97, 121, 115]⟩, ⟨#[112, 114, 111, 116, 111, 99, 111, 108]⟩, ⟨#[115, 101, 114, 118, 105, 99, 101]⟩, ⟨#[116, 101, 120, 116]⟩, ⟨#[116, 105, 109, 101, 115]⟩, ⟨#[116, 111]⟩, ⟨#[118, 97, 114]⟩, ⟨#[119, 104, 101, 114, 101]⟩, ⟨#[119, 104, 105, 108, 101]⟩, ⟨#[119, 105, 116, 104, 105, 110]⟩]
def isName (s : ByteArray) : Bool := !decide (s.size = 0) && decide (s.size <= 16) && isLetter ((strL s)[0]?.getD 0) && (strL s).all isInner
def hasS (l : List ByteArray) (s : ByteArray) : Bool := l.any (· == s)
def isWord (s : ByteArray) : Bool := isName s && !hasS kws s
theorem isName_zero {s : ByteArray} (h : s.size = 0) : isName s = false := by
 simp [isName, h]
theorem isName_pos {s : ByteArray} (h : 0 < s.size) : isName s = (decide (s.size <= 16) && isLetter ((strL s)[0]'(by rw [strL_len]; exact h)) && (strL s).all isInner) := by
 have h' : 0 < (strL s).length := by rw [strL_len]; exact h
 have h0 : ¬ s.size = 0 := by omega
 simp only [isName, h0, decide_false, Bool.not_false, Bool.true_and, List.getElem?_eq_getElem h', Option.getD_some]
theorem f119 (s : ByteArray) : Impl Tryz.prog 119 [.one (.str s)] (.one (.one (.bool (isName s)))) := by
 refine impl_z Tryz.func119 z119 Tryz.ntmps119 (by simp) ?_
 simp only [c119, slotsOf]
 have he := str_empty s
 by_cases h0 : s.size = 0
 ·have h0' : isName s = false := isName_zero h0
  refine wX (aN he h0) ?_
  simp [go_sem, h0']
 ·have hpos : 0 < s.size := by omega
  obtain ⟨b0, hb0, hn0⟩ := strL_get hpos
  have hn := isName_pos hpos
  rw [<- hn0] at hn
  by_cases h16 : s.size <= 16
  ·have h16' : ¬ (16 : Int) < (s.size : Int) := by omega
   cases hl : isLetter (b0.toNat : Int) with
   | false =>
     refine wV (aN he <| aN h0 <| aN h16' <| aN hb0 hl) (fun {x0_} => f140 x0_) ?_
     simp [go_sem, hn, hl]
   | true =>
     refine wV (aN he <| aN h0 <| aN h16' <| aN hb0 hl) (fun {x0_} => f140 x0_) ?_
     refine z_k (fun n e => ∃ k : Nat, k + n = s.size /\ ((strL s).take k).all isInner = true /\ e = [(19, .sv (.one (.int .i64 k))), (18, .sv (.one (.int .i64 s.size))), (0, .sv (.one (.str s)))]) s.size _ ⟨0, by simp, by simp, rfl⟩ (by simp [go_sem]) ?_
     rintro n e ⟨k, hk, hall, rfl⟩
     by_cases hlt : k < s.size
     ·have hbn := strL_at hlt
      have hlt' : k < (strL s).length := by rw [strL_len]; exact hlt
      cases hi : isInner ((s[k]).toNat : Int) with
      | false =>
        refine wV (aN hlt hi) (fun {x0_} => f141 x0_) ?_
        have := all_no hlt' (by rw [<- hbn]; exact hi)
        simp [go_sem, hn, this]
      | true =>
        refine wV (aN hlt hi) (fun {x0_} => f141 x0_) ?_
        refine z_j (n - 1) _ (by omega) ⟨k + 1, by omega, ?_, rfl⟩ ?_
        ·rw [all_succ hlt', hall, <- hbn, hi]; rfl
        ·simp [go_sem]
     ·have htk : (strL s).take k = strL s := List.take_of_length_le (by rw [strL_len]; omega)
      rw [htk] at hall
      refine wX hlt ?_
      simp [go_sem, hn, hl, h16, hall]
  ·have h16' : (16 : Int) < (s.size : Int) := by omega
   refine wX (aN he <| aN h0 <| aN h16' hb0) ?_
   simp [go_sem, hn, h16]
set_option maxHeartbeats 64000000
theorem any_succ {α : Type} {p : α -> Bool} {l : List α} {k : Nat} (h : k < l.length) : (l.take (k + 1)).any p = ((l.take k).any p || p l[k]) := by
 rw [List.take_succ_eq_append_getElem h, List.any_append]
 simp
theorem any_yes {α : Type} {p : α -> Bool} {l : List α} {k : Nat} (h : k < l.length) (hb : p l[k] = true) : l.any p = true := by
 rw [List.any_eq_true]
 exact ⟨l[k], List.getElem_mem h, hb⟩
def firstB {α : Type} (p : α -> Bool) (l : List α) : Int := match l.findIdx? p with
 | some i => (i : Int)
 | none => -1
theorem firstB_at {α : Type} {p : α -> Bool} {l : List α} {k : Nat} (hk : k < l.length) (h0 : (l.take k).any p = false) (h1 : p l[k] = true) : firstB p l = k := by
 have : l.findIdx? p = some k := by
  rw [List.findIdx?_eq_some_iff_getElem]
  refine ⟨hk, h1, fun j hj => ?_⟩
  rw [List.any_eq_false] at h0
  have := h0 (l[j]'(by omega)) (List.mem_iff_getElem.2 ⟨j, by rw [List.length_take]; omega, by simp⟩)
  simpa using this
 simp [firstB, this]
theorem firstB_none {α : Type} {p : α -> Bool} {l : List α} (h : l.any p = false) : firstB p l = -1 := by
 have : l.findIdx? p = none := by
  rw [List.findIdx?_eq_none_iff]
  intro x hx
  rw [List.any_eq_false] at h
  simpa using h x hx
 simp [firstB, this]
theorem firstB_any {α : Type} (p : α -> Bool) (l : List α) : decide (0 <= firstB p l) = l.any p := by
 cases h : l.any p with
 | false => rw [firstB_none h]; rfl
 | true =>
   unfold firstB
   cases h2 : l.findIdx? p with
   | none =>
     rw [List.findIdx?_eq_none_iff] at h2
     rw [List.any_eq_true] at h
     obtain ⟨x, hx, hp⟩ := h
     rw [h2 x hx] at hp
     cases hp
   | some i => simp
theorem any_bytes (l : List ByteArray) (x : ByteArray) : l.any (fun y => x == y) = hasS l x := by
 unfold hasS
 congr 1
 funext y
 rw [bytes_eq, bytes_eq]
 by_cases h : x = y
 ·subst h; rfl
 ·rw [decide_eq_false h, decide_eq_false (fun e => h e.symm)]
theorem f120 (l : List ByteArray) (x : ByteArray) (hl : l.length <= 1000000) : Impl Tryz.prog 120 [.one (.sl (l.map encS)), .one (.str x)] (.one (.one (.int .i64 (firstB (fun y => x == y) l)))) := by
 refine impl_v ?_
 refine wN ?_
 refine z_k (fun n e => ∃ k : Nat, k + n = l.length /\ (l.take k).any (fun y => x == y) = false /\ e = [(8, .sv (.one (.int .i64 k))), (7, .sv (.one (.int .i64 l.length))), (1, .sv (.one (.str x))), (0, .sv (.one (.sl (l.map encS))))]) l.length _ ⟨0, by simp, by simp, rfl⟩ (by simp [go_sem]) ?_
 rintro n e ⟨k, hk, h0, rfl⟩
 by_cases hlt : k < l.length
 ·cases hx : (x == l[k]) with
  | true =>
    have hf := firstB_at (p := fun y => x == y) hlt h0 hx
    refine wX (aN hlt <| aN encS.eq_1 hx) ?_
    simp [go_sem, hf]
  | false =>
    refine wX (aN hlt <| aN encS.eq_1 hx) ?_
    refine z_j (n - 1) _ (by omega) ⟨k + 1, by omega, ?_, rfl⟩ ?_
    ·rw [any_succ hlt, h0, hx]; rfl
    ·simp [go_sem]
 ·have hkl : l.take k = l := List.take_of_length_le (by omega)
  rw [hkl] at h0
  have hf := firstB_none h0
  refine wX hlt ?_
  simp [go_sem, hf]
theorem f101 (l : List ByteArray) (x : ByteArray) (hl : l.length <= 1000000) : Impl Tryz.prog 101 [.one (.sl (l.map encS)), .one (.str x)] (.one (.one (.bool (hasS l x)))) := by
 refine impl_v ?_
 have hf := firstB_any (fun y => x == y) l
 rw [any_bytes] at hf
 refine wC (f120 l x hl) ?_
 simp [go_sem, hf]
theorem f126 (l : List ByteArray) (x : ByteArray) (hl : l.length <= 1000000) : Impl Tryz.prog 126 [.one (.sl (l.map encS)), .one (.str x)] (.one (.one (.bool (hasS l x)))) := by
 refine impl_v ?_
 refine wN ?_
 refine z_k (fun n e => ∃ k : Nat, k + n = l.length /\ (l.take k).any (fun y => y == x) = false /\ e = [(5, .sv (.one (.int .i64 k))), (1, .sv (.one (.str x))), (0, .sv (.one (.sl (l.map encS))))]) l.length _ ⟨0, by simp, by simp, rfl⟩ (by simp [go_sem]) ?_
 rintro n e ⟨k, hk, h0, rfl⟩
 by_cases hlt : k < l.length
 ·cases hx : (l[k] == x) with
  | true =>
    have hf : hasS l x = true := any_yes hlt hx
    refine wX (aN hlt <| aN encS.eq_1 hx) ?_
    simp [go_sem, hf]
  | false =>
    refine wX (aN hlt <| aN encS.eq_1 hx) ?_
    refine z_j (n - 1) _ (by omega) ⟨k + 1, by omega, ?_, rfl⟩ ?_
    ·rw [any_succ hlt, h0, hx]; rfl
    ·simp [go_sem]
 ·have hkl : l.take k = l := List.take_of_length_le (by omega)
  rw [hkl] at h0
  have hf : hasS l x = false := h0
  refine wX hlt ?_
  simp [go_sem, hf]
theorem f125 (s : ByteArray) : Impl Tryz.prog 125 [.one (.str s)] (.one (.one (.bool (isName s)))) := by
 refine impl_z Tryz.func125 z125 Tryz.ntmps125 (by simp) ?_
 simp only [c125, slotsOf]
 have he := str_empty s
 by_cases h0 : s.size = 0
 ·have h0' : isName s = false := isName_zero h0
  refine wX (aN he h0) ?_
  simp [go_sem, h0']
 ·have hpos : 0 < s.size := by omega
  obtain ⟨b0, hb0, hn0⟩ := strL_get hpos
  have hn := isName_pos hpos
  rw [<- hn0] at hn
  cases hl : isLetter (b0.toNat : Int) with
  | false =>
    refine wV (aN he <| aN h0 <| aN hb0 hl) (fun {x0_} => f145 x0_) ?_
    simp [go_sem, hn, hl]
  | true =>
    by_cases h16 : s.size <= 16
    ·have h16' : ¬ (16 : Int) < (s.size : Int) := by omega
     refine wV (aN he <| aN h0 <| aN h16' <| aN hb0 hl) (fun {x0_} => f145 x0_) ?_
     refine z_k (fun n e => ∃ k : Nat, k + n = s.size /\ ((strL s).take k).all isInner = true /\ e = [(3, .sv (.one (.int .i64 k))), (0, .sv (.one (.str s)))]) s.size _ ⟨0, by simp, by simp, rfl⟩ (by simp [go_sem]) ?_
     rintro n e ⟨k, hk, hall, rfl⟩
     by_cases hlt : k < s.size
     ·have hbn := strL_at hlt
      have hlt' : k < (strL s).length := by rw [strL_len]; exact hlt
      cases hi : isInner ((s[k]).toNat : Int) with
      | false =>
        refine wV (aN hlt hi) (fun {x0_} => f146 x0_) ?_
        have := all_no hlt' (by rw [<- hbn]; exact hi)
        simp [go_sem, hn, this]
      | true =>
        refine wV (aN hlt hi) (fun {x0_} => f146 x0_) ?_
        refine z_j (n - 1) _ (by omega) ⟨k + 1, by omega, ?_, rfl⟩ ?_
        ·rw [all_succ hlt', hall, <- hbn, hi]; rfl
        ·simp [go_sem]
     ·have htk : (strL s).take k = strL s := List.take_of_length_le (by rw [strL_len]; omega)
      rw [htk] at hall
      refine wX hlt ?_
      simp [go_sem, hn, hl, h16, hall]
    ·have h16' : (16 : Int) < (s.size : Int) := by omega
     refine wV (aN he <| aN h0 <| aN h16' <| aN hb0 hl) (fun {x0_} => f145 x0_) ?_
     simp [go_sem, hn, h16]
theorem f127 : Impl Tryz.prog 127 [] (.one (.one (.ow 1 (kws.map encS)))) := by
 refine impl_z Tryz.func127 z127 Tryz.ntmps127 (by simp) ?_
 simp only [c127, slotsOf]
 refine wN ?_
 simp [go_sem, kws, encS]
theorem kws_len : kws.length <= 1000000 := by decide
theorem f107 (s : ByteArray) : Impl Tryz.prog 107 [.one (.str s)] (.one (.one (.bool (isWord s)))) := by
 refine impl_v ?_
 cases hn : isName s with
 | true =>
   refine wV hn (aN (f125 s) <| aN @f127 (f126 kws s kws_len)) ?_
   simp [go_sem, isWord, hn]
 | false =>
   refine wV hn (f125 s) ?_
   simp [go_sem, isWord, hn]
theorem f147 (s : ByteArray) : Impl Tryz.prog 147 [.one (.str s)] (.one (.one (.bool (isWord s)))) := by
 refine impl_v ?_
 refine wC (f107 s) ?_
 simp [go_sem]
theorem f100 (s : ByteArray) : Impl Tryz.prog 100 [.one (.str s)] (.one (.one (.bool (isWord s)))) := by
 refine impl_z Tryz.func100 z100 Tryz.ntmps100 (by simp) ?_
 simp only [c100, slotsOf]
 have f101s := f101 kws s kws_len
 simp only [kws, List.map_cons, List.map_nil, encS] at f101s
 have hw : isWord s = (isName s && !hasS kws s) := rfl
 simp only [kws] at hw
 cases hn : isName s with
 | true =>
   refine wV hn (aN (f119 s) f101s) ?_
   simp [go_sem, hw, hn]
 | false =>
   refine wV hn (f119 s) ?_
   simp [go_sem, hw, hn]
set_option maxRecDepth 100000 in
theorem str_count (s : ByteArray) (c : UInt8) (w : World) :
  Calls Tryz.prog 162 #[.string s, .string ⟨#[c]⟩] w fun e w' => e = .returned (.int .i64 (Lib.countByte s.data.toList c)) /\ w' = w := by
 go_enter Tryz.func162, Tryz.ntmps162
 go_wp2
 rw [run_callFunc_extern Tryz.func166 (by kernel_rfl) (by kernel_rfl) (by kernel_rfl) (e := Extern.BytealgCount.count) (by kernel_rfl), Lib.run_countString]
 simp only [Result.andThen]
 rw [Oper.upon_value]
 go_wp2
 go_ret
 exact ⟨rfl, rfl⟩
set_option maxRecDepth 100000 in
theorem str_indexByte (s : ByteArray) (c : Int) (w : World) :
  Calls Tryz.prog 169 #[.string s, .int .u8 c] w fun e w' => e = .returned (.int .i64 (Lib.indexByte s.data.toList c.toNat.toUInt8)) /\ w' = w := by
 go_enter Tryz.func169, Tryz.ntmps169
 go_wp2
 rw [run_callFunc_extern Tryz.func173 (by kernel_rfl) (by kernel_rfl) (by kernel_rfl) (e := Extern.BytealgIndexByte.indexByte) (by kernel_rfl), Lib.run_indexByteString]
 simp only [Result.andThen]
 rw [Oper.upon_value]
 go_wp2
 go_ret
 exact ⟨rfl, rfl⟩
set_option maxRecDepth 100000 in
theorem str_index1 (s : ByteArray) (c : UInt8) (w : World) :
  Calls Tryz.prog 167 #[.string s, .string ⟨#[c]⟩] w fun e w' => e = .returned (.int .i64 (Lib.indexByte s.data.toList c)) /\ w' = w := by
 go_enter Tryz.func167, Tryz.ntmps167
 go_wp2_with (go_at_call 169; refine (str_indexByte _ _ _).mono ?_; rintro e w' ⟨rfl, rfl⟩)
 ·have h : ([c] == s.toList) = true := by assumption
  go_ret
  refine ⟨?_, rfl⟩
  have e : s.data.toList = [c] := by rw [<- Lib.toList_data]; exact (beq_iff_eq.1 h).symm
  rw [e]
  simp [Lib.indexByte]
 ·go_ret
  exact ⟨rfl, rfl⟩
theorem str_index (s : ByteArray) (c : UInt8) (w : World) :
  Calls Tryz.prog 163 #[.string s, .string ⟨#[c]⟩] w fun e w' => e = .returned (.int .i64 (Lib.indexByte s.data.toList c)) /\ w' = w := by
 go_enter Tryz.func163, Tryz.ntmps163
 go_wp2_with (go_at_call 167; refine (str_index1 _ _ _).mono ?_; rintro e w' ⟨rfl, rfl⟩)
 go_ret
 exact ⟨rfl, rfl⟩
theorem Impl.ofStr2 {P : Program} {f : FuncId} {fn : Func} (hf : P.funcs[f]? = some fn) (hb : fn.body.isSome = true) (hn : fn.name ≠ "runtime.NumGoroutine") {s t : ByteArray} {k : IntKind} {n : Int}
  (h : ∀ w, Calls P f #[.string s, .string t] w fun e w' => e = .returned (.int k n) /\ w' = w) : Impl P f [.one (.str s), .one (.str t)] (.one (.one (.int k n))) := by
 refine ⟨⟨fn, hf, hb, hn⟩, fun w S vs hS hv => ?_⟩
 have hvs : vs = [.string s, .string t] := by
  generalize hr : ([] : List Nat) = r at hv
  cases hv with
  | cons v x r vs xs rs h1 h2 =>
    cases h2 with
    | cons v' x' r' vs' xs' rs' h3 h4 =>
      cases h4
      cases CzS.one_inv h1
      cases CzS.one_inv h3
      rfl
 subst hvs
 refine (h w).mono ?_
 rintro e w' ⟨rfl, rfl⟩
 exact ⟨_, [], rfl, Below.refl _ _, by simp, by simp, .one _ _ _ (.one _ _ _ (.int _ _))⟩
end Go.Av
