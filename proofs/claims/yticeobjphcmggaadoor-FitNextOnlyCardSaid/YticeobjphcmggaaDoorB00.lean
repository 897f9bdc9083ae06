/- Part of a proof. -/
import Derived.Test.YticeobjphcmggaaDoorC0
import Derived.Test.YticeobjphcmggaaDoorAvR
import Derived.Test.YticeobjphcmggaaDoorProg
import Derived.Test.YticeobjphcmggaaDoorF4
import Derived.Lib.Strings
import Derived.Lib.Slices
import Derived.Lib.Walk
import Derived.Lib.Bytealg
set_option linter.unusedVariables false
set_option linter.unusedSimpArgs false
set_option maxHeartbeats 64000000
set_option maxRecDepth 8000
namespace Go.Av
open Go Go.Proofs
@[go_sem] theorem ty_3 : kindT Tryd.prog 3 = some false /\ sizeT Tryd.prog 3 = some 1 /\ bytesT Tryd.prog 3 = some 8 /\ elT Tryd.prog 3 = none /\ arrT Tryd.prog 3 = none /\ intT Tryd.prog 3 = some IntKind.i64 /\ zeroT Tryd.prog 3 = some [DV.int IntKind.i64 0] /\ placesT Tryd.prog 3 = none /\ zero1 Tryd.prog 3 = some (KV.ki IntKind.i64 0) /\ cmpT Tryd.prog 20 3 = some [(0, 0)] := by and_intros <;> kernel_rfl
@[go_sem] theorem ty_4 : kindT Tryd.prog 4 = some false /\ sizeT Tryd.prog 4 = some 1 /\ bytesT Tryd.prog 4 = some 1 /\ elT Tryd.prog 4 = none /\ arrT Tryd.prog 4 = none /\ boolT Tryd.prog 4 = true /\ zeroT Tryd.prog 4 = some [DV.bool false] /\ placesT Tryd.prog 4 = none /\ zero1 Tryd.prog 4 = some (KV.kb false) /\ cmpT Tryd.prog 20 4 = some [(0, 1)] := by and_intros <;> kernel_rfl
@[go_sem] theorem ty_5 : kindT Tryd.prog 5 = some false /\ sizeT Tryd.prog 5 = some 1 /\ bytesT Tryd.prog 5 = some 1 /\ elT Tryd.prog 5 = none /\ arrT Tryd.prog 5 = none /\ intT Tryd.prog 5 = some IntKind.u8 /\ zeroT Tryd.prog 5 = some [DV.int IntKind.u8 0] /\ placesT Tryd.prog 5 = none /\ zero1 Tryd.prog 5 = some (KV.ki IntKind.u8 0) /\ cmpT Tryd.prog 20 5 = some [(0, 0)] := by and_intros <;> kernel_rfl
@[go_sem] theorem ty_9 : kindT Tryd.prog 9 = some false /\ sizeT Tryd.prog 9 = some 1 /\ bytesT Tryd.prog 9 = some 16 /\ elT Tryd.prog 9 = none /\ arrT Tryd.prog 9 = none /\ strT Tryd.prog 9 = true /\ zeroT Tryd.prog 9 = some [DV.str { data := #[] }] /\ placesT Tryd.prog 9 = none /\ zero1 Tryd.prog 9 = some (KV.ks { data := #[] }) /\ cmpT Tryd.prog 20 9 = some [(0, 2)] := by and_intros <;> kernel_rfl
@[go_sem] theorem ty_21 : kindT Tryd.prog 21 = some false /\ sizeT Tryd.prog 21 = some 1 /\ bytesT Tryd.prog 21 = some 4 /\ elT Tryd.prog 21 = none /\ arrT Tryd.prog 21 = none /\ intT Tryd.prog 21 = some IntKind.i32 /\ zeroT Tryd.prog 21 = some [DV.int IntKind.i32 0] /\ placesT Tryd.prog 21 = none /\ zero1 Tryd.prog 21 = some (KV.ki IntKind.i32 0) /\ cmpT Tryd.prog 20 21 = some [(0, 0)] := by and_intros <;> kernel_rfl
@[go_sem] theorem ty_22 : kindT Tryd.prog 22 = some false /\ sizeT Tryd.prog 22 = some 1 /\ bytesT Tryd.prog 22 = some 24 /\ elT Tryd.prog 22 = some 9 /\ arrT Tryd.prog 22 = none /\ zeroT Tryd.prog 22 = some [DV.nil] /\ placesT Tryd.prog 22 = none := by and_intros <;> kernel_rfl
@[go_sem] theorem ty_23 : kindT Tryd.prog 23 = some false /\ sizeT Tryd.prog 23 = some 1 /\ bytesT Tryd.prog 23 = some 24 /\ elT Tryd.prog 23 = some 51 /\ arrT Tryd.prog 23 = none /\ zeroT Tryd.prog 23 = some [DV.nil] /\ placesT Tryd.prog 23 = none := by and_intros <;> kernel_rfl
@[go_sem] theorem ty_24 : kindT Tryd.prog 24 = some false /\ sizeT Tryd.prog 24 = some 1 /\ bytesT Tryd.prog 24 = some 24 /\ elT Tryd.prog 24 = some 55 /\ arrT Tryd.prog 24 = none /\ zeroT Tryd.prog 24 = some [DV.nil] /\ placesT Tryd.prog 24 = none := by and_intros <;> kernel_rfl
@[go_sem] theorem ty_25 : kindT Tryd.prog 25 = some false /\ sizeT Tryd.prog 25 = some 1 /\ bytesT Tryd.prog 25 = some 24 /\ elT Tryd.prog 25 = some 120 /\ arrT Tryd.prog 25 = none /\ zeroT Tryd.prog 25 = some [DV.nil] /\ placesT Tryd.prog 25 = none := by and_intros <;> kernel_rfl
@[go_sem] theorem ty_27 : kindT Tryd.prog 27 = some true /\ sizeT Tryd.prog 27 = some 8 /\ bytesT Tryd.prog 27 = some 136 /\ elT Tryd.prog 27 = none /\ arrT Tryd.prog 27 = none /\ zeroT Tryd.prog 27 = some [DV.str { data := #[] }, DV.nil, DV.nil, DV.int IntKind.i64 0, DV.int IntKind.i64 0, DV.int IntKind.i64 0, DV.nil, DV.nil] /\ placesT Tryd.prog 27 = some [(0, 1), (1, 1), (2, 1), (3, 1), (4, 1), (5, 1), (6, 1), (7, 1)] /\ fldT Tryd.prog 27 0 = some (0, 9) /\ fldT Tryd.prog 27 1 = some (1, 22) /\ fldT Tryd.prog 27 2 = some (2, 23) /\ fldT Tryd.prog 27 3 = some (3, 3) /\ fldT Tryd.prog 27 4 = some (4, 3) /\ fldT Tryd.prog 27 5 = some (5, 3) /\ fldT Tryd.prog 27 6 = some (6, 24) /\ fldT Tryd.prog 27 7 = some (7, 25) := by and_intros <;> kernel_rfl
@[go_sem] theorem ty_28 : kindT Tryd.prog 28 = some false /\ sizeT Tryd.prog 28 = some 1 /\ bytesT Tryd.prog 28 = some 24 /\ elT Tryd.prog 28 = some 41 /\ arrT Tryd.prog 28 = none /\ zeroT Tryd.prog 28 = some [DV.nil] /\ placesT Tryd.prog 28 = none := by and_intros <;> kernel_rfl
@[go_sem] theorem ty_29 : kindT Tryd.prog 29 = some true /\ sizeT Tryd.prog 29 = some 6 /\ bytesT Tryd.prog 29 = some 6 /\ elT Tryd.prog 29 = none /\ arrT Tryd.prog 29 = some (6, 5) /\ zeroT Tryd.prog 29 = some [DV.int IntKind.u8 0, DV.int IntKind.u8 0, DV.int IntKind.u8 0, DV.int IntKind.u8 0, DV.int IntKind.u8 0, DV.int IntKind.u8 0] /\ placesT Tryd.prog 29 = none /\ cmpT Tryd.prog 20 29 = some [(0, 0), (1, 0), (2, 0), (3, 0), (4, 0), (5, 0)] := by and_intros <;> kernel_rfl
@[go_sem] theorem ty_32 : kindT Tryd.prog 32 = some false /\ sizeT Tryd.prog 32 = some 1 /\ bytesT Tryd.prog 32 = some 24 /\ elT Tryd.prog 32 = some 53 /\ arrT Tryd.prog 32 = none /\ zeroT Tryd.prog 32 = some [DV.nil] /\ placesT Tryd.prog 32 = none := by and_intros <;> kernel_rfl
@[go_sem] theorem ty_33 : kindT Tryd.prog 33 = some false /\ sizeT Tryd.prog 33 = some 1 /\ bytesT Tryd.prog 33 = some 8 /\ elT Tryd.prog 33 = none /\ arrT Tryd.prog 33 = none /\ intT Tryd.prog 33 = some IntKind.i64 /\ zeroT Tryd.prog 33 = some [DV.int IntKind.i64 0] /\ placesT Tryd.prog 33 = none /\ zero1 Tryd.prog 33 = some (KV.ki IntKind.i64 0) /\ cmpT Tryd.prog 20 33 = some [(0, 0)] := by and_intros <;> kernel_rfl
@[go_sem] theorem ty_38 : kindT Tryd.prog 38 = some false /\ sizeT Tryd.prog 38 = some 1 /\ bytesT Tryd.prog 38 = some 24 /\ elT Tryd.prog 38 = some 91 /\ arrT Tryd.prog 38 = none /\ zeroT Tryd.prog 38 = some [DV.nil] /\ placesT Tryd.prog 38 = none := by and_intros <;> kernel_rfl
@[go_sem] theorem ty_40 : kindT Tryd.prog 40 = some true /\ sizeT Tryd.prog 40 = some 5 /\ bytesT Tryd.prog 40 = some 56 /\ elT Tryd.prog 40 = none /\ arrT Tryd.prog 40 = none /\ zeroT Tryd.prog 40 = some [DV.int IntKind.i64 0, DV.bool false, DV.int IntKind.i64 0, DV.int IntKind.i64 0, DV.nil] /\ placesT Tryd.prog 40 = some [(0, 1), (1, 1), (2, 1), (3, 1), (4, 1)] /\ fldT Tryd.prog 40 0 = some (0, 3) /\ fldT Tryd.prog 40 1 = some (1, 4) /\ fldT Tryd.prog 40 2 = some (2, 3) /\ fldT Tryd.prog 40 3 = some (3, 3) /\ fldT Tryd.prog 40 4 = some (4, 38) := by and_intros <;> kernel_rfl
@[go_sem] theorem ty_41 : kindT Tryd.prog 41 = some false /\ sizeT Tryd.prog 41 = some 1 /\ bytesT Tryd.prog 41 = some 24 /\ elT Tryd.prog 41 = some 40 /\ arrT Tryd.prog 41 = none /\ zeroT Tryd.prog 41 = some [DV.nil] /\ placesT Tryd.prog 41 = none := by and_intros <;> kernel_rfl
@[go_sem] theorem ty_45 : kindT Tryd.prog 45 = some false /\ sizeT Tryd.prog 45 = some 1 /\ bytesT Tryd.prog 45 = some 24 /\ elT Tryd.prog 45 = some 109 /\ arrT Tryd.prog 45 = none /\ zeroT Tryd.prog 45 = some [DV.nil] /\ placesT Tryd.prog 45 = none := by and_intros <;> kernel_rfl
@[go_sem] theorem ty_46 : kindT Tryd.prog 46 = some false /\ sizeT Tryd.prog 46 = some 1 /\ bytesT Tryd.prog 46 = some 24 /\ elT Tryd.prog 46 = some 112 /\ arrT Tryd.prog 46 = none /\ zeroT Tryd.prog 46 = some [DV.nil] /\ placesT Tryd.prog 46 = none := by and_intros <;> kernel_rfl
@[go_sem] theorem ty_47 : kindT Tryd.prog 47 = some false /\ sizeT Tryd.prog 47 = some 1 /\ bytesT Tryd.prog 47 = some 24 /\ elT Tryd.prog 47 = some 113 /\ arrT Tryd.prog 47 = none /\ zeroT Tryd.prog 47 = some [DV.nil] /\ placesT Tryd.prog 47 = none := by and_intros <;> kernel_rfl
@[go_sem] theorem ty_49 : kindT Tryd.prog 49 = some true /\ sizeT Tryd.prog 49 = some 2 /\ bytesT Tryd.prog 49 = some 48 /\ elT Tryd.prog 49 = none /\ arrT Tryd.prog 49 = none /\ zeroT Tryd.prog 49 = some [DV.nil, DV.nil] /\ placesT Tryd.prog 49 = some [(0, 1), (1, 1)] /\ fldT Tryd.prog 49 0 = some (0, 46) /\ fldT Tryd.prog 49 1 = some (1, 47) := by and_intros <;> kernel_rfl
@[go_sem] theorem ty_51 : kindT Tryd.prog 51 = some true /\ sizeT Tryd.prog 51 = some 5 /\ bytesT Tryd.prog 51 = some 96 /\ elT Tryd.prog 51 = none /\ arrT Tryd.prog 51 = none /\ zeroT Tryd.prog 51 = some [DV.str { data := #[] }, DV.nil, DV.int IntKind.i64 0, DV.nil, DV.nil] /\ placesT Tryd.prog 51 = some [(0, 1), (1, 1), (2, 1), (3, 2)] /\ fldT Tryd.prog 51 0 = some (0, 9) /\ fldT Tryd.prog 51 1 = some (1, 45) /\ fldT Tryd.prog 51 2 = some (2, 3) /\ fldT Tryd.prog 51 3 = some (3, 49) := by and_intros <;> kernel_rfl
@[go_sem] theorem ty_53 : kindT Tryd.prog 53 = some true /\ sizeT Tryd.prog 53 = some 3 /\ bytesT Tryd.prog 53 = some 24 /\ elT Tryd.prog 53 = none /\ arrT Tryd.prog 53 = none /\ zeroT Tryd.prog 53 = some [DV.int IntKind.i64 0, DV.int IntKind.i64 0, DV.int IntKind.i64 0] /\ placesT Tryd.prog 53 = some [(0, 1), (1, 1), (2, 1)] /\ cmpT Tryd.prog 20 53 = some [(0, 0), (1, 0), (2, 0)] /\ fldT Tryd.prog 53 0 = some (0, 3) /\ fldT Tryd.prog 53 1 = some (1, 3) /\ fldT Tryd.prog 53 2 = some (2, 3) := by and_intros <;> kernel_rfl
@[go_sem] theorem ty_55 : kindT Tryd.prog 55 = some true /\ sizeT Tryd.prog 55 = some 6 /\ bytesT Tryd.prog 55 = some 48 /\ elT Tryd.prog 55 = none /\ arrT Tryd.prog 55 = none /\ zeroT Tryd.prog 55 = some [DV.int IntKind.i64 0, DV.int IntKind.i64 0, DV.int IntKind.i64 0, DV.int IntKind.i64 0, DV.int IntKind.i64 0, DV.bool false] /\ placesT Tryd.prog 55 = some [(0, 1), (1, 3), (4, 1), (5, 1)] /\ cmpT Tryd.prog 20 55 = some [(0, 0), (1, 0), (2, 0), (3, 0), (4, 0), (5, 1)] /\ fldT Tryd.prog 55 0 = some (0, 3) /\ fldT Tryd.prog 55 1 = some (1, 53) /\ fldT Tryd.prog 55 2 = some (4, 3) /\ fldT Tryd.prog 55 3 = some (5, 4) := by and_intros <;> kernel_rfl
@[go_sem] theorem ty_58 : kindT Tryd.prog 58 = some false /\ sizeT Tryd.prog 58 = some 1 /\ bytesT Tryd.prog 58 = some 24 /\ elT Tryd.prog 58 = some 3 /\ arrT Tryd.prog 58 = none /\ zeroT Tryd.prog 58 = some [DV.nil] /\ placesT Tryd.prog 58 = none := by and_intros <;> kernel_rfl
@[go_sem] theorem ty_61 : kindT Tryd.prog 61 = some true /\ sizeT Tryd.prog 61 = some 2 /\ bytesT Tryd.prog 61 = some 2 /\ elT Tryd.prog 61 = none /\ arrT Tryd.prog 61 = some (2, 4) /\ zeroT Tryd.prog 61 = some [DV.bool false, DV.bool false] /\ placesT Tryd.prog 61 = none /\ cmpT Tryd.prog 20 61 = some [(0, 1), (1, 1)] := by and_intros <;> kernel_rfl
@[go_sem] theorem ty_66 : kindT Tryd.prog 66 = some false /\ sizeT Tryd.prog 66 = some 1 /\ bytesT Tryd.prog 66 = some 24 /\ elT Tryd.prog 66 = some 4 /\ arrT Tryd.prog 66 = none /\ zeroT Tryd.prog 66 = some [DV.nil] /\ placesT Tryd.prog 66 = none := by and_intros <;> kernel_rfl
@[go_sem] theorem ty_71 : kindT Tryd.prog 71 = some true /\ sizeT Tryd.prog 71 = some 6 /\ bytesT Tryd.prog 71 = some 48 /\ elT Tryd.prog 71 = none /\ arrT Tryd.prog 71 = some (6, 3) /\ zeroT Tryd.prog 71 = some [DV.int IntKind.i64 0, DV.int IntKind.i64 0, DV.int IntKind.i64 0, DV.int IntKind.i64 0, DV.int IntKind.i64 0, DV.int IntKind.i64 0] /\ placesT Tryd.prog 71 = none /\ cmpT Tryd.prog 20 71 = some [(0, 0), (1, 0), (2, 0), (3, 0), (4, 0), (5, 0)] := by and_intros <;> kernel_rfl
@[go_sem] theorem ty_73 : kindT Tryd.prog 73 = some true /\ sizeT Tryd.prog 73 = some 7 /\ bytesT Tryd.prog 73 = some 56 /\ elT Tryd.prog 73 = none /\ arrT Tryd.prog 73 = none /\ zeroT Tryd.prog 73 = some [DV.int IntKind.i64 0, DV.int IntKind.i64 0, DV.int IntKind.i64 0, DV.int IntKind.i64 0, DV.int IntKind.i64 0, DV.int IntKind.i64 0, DV.int IntKind.i64 0] /\ placesT Tryd.prog 73 = some [(0, 1), (1, 6)] /\ cmpT Tryd.prog 20 73 = some [(0, 0), (1, 0), (2, 0), (3, 0), (4, 0), (5, 0), (6, 0)] /\ fldT Tryd.prog 73 0 = some (0, 3) /\ fldT Tryd.prog 73 1 = some (1, 71) := by and_intros <;> kernel_rfl
@[go_sem] theorem ty_74 : kindT Tryd.prog 74 = some false /\ sizeT Tryd.prog 74 = some 1 /\ bytesT Tryd.prog 74 = some 24 /\ elT Tryd.prog 74 = some 58 /\ arrT Tryd.prog 74 = none /\ zeroT Tryd.prog 74 = some [DV.nil] /\ placesT Tryd.prog 74 = none := by and_intros <;> kernel_rfl
@[go_sem] theorem ty_76 : kindT Tryd.prog 76 = some false /\ sizeT Tryd.prog 76 = some 1 /\ bytesT Tryd.prog 76 = some 24 /\ elT Tryd.prog 76 = some 73 /\ arrT Tryd.prog 76 = none /\ zeroT Tryd.prog 76 = some [DV.nil] /\ placesT Tryd.prog 76 = none := by and_intros <;> kernel_rfl
@[go_sem] theorem ty_78 : kindT Tryd.prog 78 = some true /\ sizeT Tryd.prog 78 = some 2 /\ bytesT Tryd.prog 78 = some 16 /\ elT Tryd.prog 78 = none /\ arrT Tryd.prog 78 = none /\ zeroT Tryd.prog 78 = some [DV.int IntKind.i64 0, DV.int IntKind.i64 0] /\ placesT Tryd.prog 78 = some [(0, 1), (1, 1)] /\ cmpT Tryd.prog 20 78 = some [(0, 0), (1, 0)] /\ fldT Tryd.prog 78 0 = some (0, 3) /\ fldT Tryd.prog 78 1 = some (1, 3) := by and_intros <;> kernel_rfl
@[go_sem] theorem ty_79 : kindT Tryd.prog 79 = some false /\ sizeT Tryd.prog 79 = some 1 /\ bytesT Tryd.prog 79 = some 24 /\ elT Tryd.prog 79 = some 78 /\ arrT Tryd.prog 79 = none /\ zeroT Tryd.prog 79 = some [DV.nil] /\ placesT Tryd.prog 79 = none := by and_intros <;> kernel_rfl
@[go_sem] theorem ty_80 : kindT Tryd.prog 80 = some false /\ sizeT Tryd.prog 80 = some 1 /\ bytesT Tryd.prog 80 = some 8 /\ elT Tryd.prog 80 = none /\ arrT Tryd.prog 80 = none /\ zeroT Tryd.prog 80 = some [DV.raw (Value.map none)] /\ placesT Tryd.prog 80 = none /\ mapT Tryd.prog 80 = some (73, 4) := by and_intros <;> kernel_rfl
@[go_sem] theorem ty_91 : kindT Tryd.prog 91 = some true /\ sizeT Tryd.prog 91 = some 3 /\ bytesT Tryd.prog 91 = some 32 /\ elT Tryd.prog 91 = none /\ arrT Tryd.prog 91 = none /\ zeroT Tryd.prog 91 = some [DV.int IntKind.i64 0, DV.int IntKind.i64 0, DV.str { data := #[] }] /\ placesT Tryd.prog 91 = some [(0, 1), (1, 1), (2, 1)] /\ cmpT Tryd.prog 20 91 = some [(0, 0), (1, 0), (2, 2)] /\ fldT Tryd.prog 91 0 = some (0, 3) /\ fldT Tryd.prog 91 1 = some (1, 3) /\ fldT Tryd.prog 91 2 = some (2, 9) := by and_intros <;> kernel_rfl
@[go_sem] theorem ty_103 : kindT Tryd.prog 103 = some false /\ sizeT Tryd.prog 103 = some 1 /\ bytesT Tryd.prog 103 = some 8 /\ elT Tryd.prog 103 = none /\ arrT Tryd.prog 103 = none /\ placesT Tryd.prog 103 = none := by and_intros <;> kernel_rfl
@[go_sem] theorem ty_107 : kindT Tryd.prog 107 = some true /\ sizeT Tryd.prog 107 = some 3 /\ bytesT Tryd.prog 107 = some 24 /\ elT Tryd.prog 107 = none /\ arrT Tryd.prog 107 = none /\ zeroT Tryd.prog 107 = some [DV.int IntKind.i64 0, DV.int IntKind.i64 0, DV.int IntKind.i64 0] /\ placesT Tryd.prog 107 = some [(0, 1), (1, 1), (2, 1)] /\ cmpT Tryd.prog 20 107 = some [(0, 0), (1, 0), (2, 0)] /\ fldT Tryd.prog 107 0 = some (0, 3) /\ fldT Tryd.prog 107 1 = some (1, 3) /\ fldT Tryd.prog 107 2 = some (2, 3) := by and_intros <;> kernel_rfl
@[go_sem] theorem ty_109 : kindT Tryd.prog 109 = some true /\ sizeT Tryd.prog 109 = some 4 /\ bytesT Tryd.prog 109 = some 40 /\ elT Tryd.prog 109 = none /\ arrT Tryd.prog 109 = none /\ zeroT Tryd.prog 109 = some [DV.str { data := #[] }, DV.int IntKind.i64 0, DV.int IntKind.i64 0, DV.int IntKind.i64 0] /\ placesT Tryd.prog 109 = some [(0, 1), (1, 3)] /\ cmpT Tryd.prog 20 109 = some [(0, 2), (1, 0), (2, 0), (3, 0)] /\ fldT Tryd.prog 109 0 = some (0, 9) /\ fldT Tryd.prog 109 1 = some (1, 107) := by and_intros <;> kernel_rfl
@[go_sem] theorem ty_112 : kindT Tryd.prog 112 = some true /\ sizeT Tryd.prog 112 = some 3 /\ bytesT Tryd.prog 112 = some 24 /\ elT Tryd.prog 112 = none /\ arrT Tryd.prog 112 = none /\ zeroT Tryd.prog 112 = some [DV.int IntKind.i64 0, DV.int IntKind.i64 0, DV.int IntKind.i64 0] /\ placesT Tryd.prog 112 = some [(0, 1), (1, 1), (2, 1)] /\ cmpT Tryd.prog 20 112 = some [(0, 0), (1, 0), (2, 0)] /\ fldT Tryd.prog 112 0 = some (0, 3) /\ fldT Tryd.prog 112 1 = some (1, 3) /\ fldT Tryd.prog 112 2 = some (2, 3) := by and_intros <;> kernel_rfl
@[go_sem] theorem ty_113 : kindT Tryd.prog 113 = some true /\ sizeT Tryd.prog 113 = some 2 /\ bytesT Tryd.prog 113 = some 16 /\ elT Tryd.prog 113 = none /\ arrT Tryd.prog 113 = some (2, 3) /\ zeroT Tryd.prog 113 = some [DV.int IntKind.i64 0, DV.int IntKind.i64 0] /\ placesT Tryd.prog 113 = none /\ cmpT Tryd.prog 20 113 = some [(0, 0), (1, 0)] := by and_intros <;> kernel_rfl
@[go_sem] theorem ty_120 : kindT Tryd.prog 120 = some true /\ sizeT Tryd.prog 120 = some 3 /\ bytesT Tryd.prog 120 = some 24 /\ elT Tryd.prog 120 = none /\ arrT Tryd.prog 120 = none /\ zeroT Tryd.prog 120 = some [DV.int IntKind.i64 0, DV.int IntKind.i64 0, DV.int IntKind.i64 0] /\ placesT Tryd.prog 120 = some [(0, 1), (1, 1), (2, 1)] /\ cmpT Tryd.prog 20 120 = some [(0, 0), (1, 0), (2, 0)] /\ fldT Tryd.prog 120 0 = some (0, 3) /\ fldT Tryd.prog 120 1 = some (1, 3) /\ fldT Tryd.prog 120 2 = some (2, 3) := by and_intros <;> kernel_rfl
@[go_sem] theorem ty_133 : kindT Tryd.prog 133 = some true /\ sizeT Tryd.prog 133 = some 28 /\ bytesT Tryd.prog 133 = some 448 /\ elT Tryd.prog 133 = none /\ arrT Tryd.prog 133 = some (28, 9) /\ zeroT Tryd.prog 133 = some [DV.str { data := #[] }, DV.str { data := #[] }, DV.str { data := #[] }, DV.str { data := #[] }, DV.str { data := #[] }, DV.str { data := #[] }, DV.str { data := #[] }, DV.str { data := #[] }, DV.str { data := #[] }, DV.str { data := #[] }, DV.str { data := #[] }, DV.str { data := #[] }, DV.str { data := #[] }, DV.str { data := #[] }, DV.str { data := #[] }, DV.str { data := #[] }, DV.str { data := #[] }, DV.str { data := #[] }, DV.str { data := #[] }, DV.str { data := #[] }, DV.str { data := #[] }, DV.str { data := #[] }, DV.str { data := #[] }, DV.str { data := #[] }, DV.str { data := #[] }, DV.str { data := #[] }, DV.str { data := #[] }, DV.str { data := #[] }] /\ placesT Tryd.prog 133 = none /\ cmpT Tryd.prog 20 133 = some [(0, 2), (1, 2), (2, 2), (3, 2), (4, 2), (5, 2), (6, 2), (7, 2), (8, 2), (9, 2), (10, 2), (11, 2), (12, 2), (13, 2), (14, 2), (15, 2), (16, 2), (17, 2), (18, 2), (19, 2), (20, 2), (21, 2), (22, 2), (23, 2), (24, 2), (25, 2), (26, 2), (27, 2)] := by and_intros <;> kernel_rfl
@[go_sem] theorem ty_136 : kindT Tryd.prog 136 = some false /\ sizeT Tryd.prog 136 = some 1 /\ bytesT Tryd.prog 136 = some 8 /\ elT Tryd.prog 136 = none /\ arrT Tryd.prog 136 = none /\ intT Tryd.prog 136 = some IntKind.u64 /\ zeroT Tryd.prog 136 = some [DV.int IntKind.u64 0] /\ placesT Tryd.prog 136 = none /\ zero1 Tryd.prog 136 = some (KV.ki IntKind.u64 0) /\ cmpT Tryd.prog 20 136 = some [(0, 0)] := by and_intros <;> kernel_rfl
@[go_sem] theorem ty_145 : kindT Tryd.prog 145 = some false /\ sizeT Tryd.prog 145 = some 1 /\ bytesT Tryd.prog 145 = some 4 /\ elT Tryd.prog 145 = none /\ arrT Tryd.prog 145 = none /\ intT Tryd.prog 145 = some IntKind.u32 /\ zeroT Tryd.prog 145 = some [DV.int IntKind.u32 0] /\ placesT Tryd.prog 145 = none /\ zero1 Tryd.prog 145 = some (KV.ki IntKind.u32 0) /\ cmpT Tryd.prog 20 145 = some [(0, 0)] := by and_intros <;> kernel_rfl
@[go_sem] theorem ty_148 : kindT Tryd.prog 148 = some false /\ sizeT Tryd.prog 148 = some 1 /\ bytesT Tryd.prog 148 = some 8 /\ elT Tryd.prog 148 = none /\ arrT Tryd.prog 148 = none /\ intT Tryd.prog 148 = some IntKind.u64 /\ zeroT Tryd.prog 148 = some [DV.int IntKind.u64 0] /\ placesT Tryd.prog 148 = none /\ zero1 Tryd.prog 148 = some (KV.ki IntKind.u64 0) /\ cmpT Tryd.prog 20 148 = some [(0, 0)] := by and_intros <;> kernel_rfl
end Go.Av
namespace Go.Av
open Go Go.RowKit Go.Proofs
set_option maxHeartbeats 64000000
structure Inter where
 from_ : Int
 to : Int
 label : Int
 deriving DecidableEq
def encI (x : Inter) : List DV := [.int .i64 x.from_, .int .i64 x.to, .int .i64 x.label]
structure Ev where
 role : Int
 send : Bool
 peer : Int
 label : Int
 vals : Option (List (List DV))
def valsDV : Option (List (List DV)) -> DV
 | none => .nil
 | some els => .sl els
@[go_sem ↓ high] theorem flat_vals (o : Option (List (List DV))) : (valsDV o).flat = true := by cases o <;> rfl
@[go_sem ↓ high] theorem frz_vals (o : Option (List (List DV))) : (valsDV o).frz = valsDV o := by cases o <;> rfl
def encE (x : Ev) : List DV := [.int .i64 x.role, .bool x.send, .int .i64 x.peer, .int .i64 x.label, valsDV x.vals]
def encH (x : List Ev) : List DV := [.sl (x.map encE)]
def encN (x : Int) : List DV := [.int .i64 x]
@[go_sem ↓ high] theorem frz_encI (x : Inter) : frzL (encI x) = encI x := by simp [encI, frzL, DV.frz]
@[go_sem ↓ high] theorem frz_encE (x : Ev) : frzL (encE x) = encE x := by simp [encE, frzL, DV.frz, frz_vals]
@[go_sem ↓ high] theorem frz_encN (x : Int) : frzL (encN x) = encN x := by simp [encN, frzL, DV.frz]
@[go_sem ↓ high] theorem frz_encH (x : List Ev) : frzL (encH x) = encH x := by simp [encH, frzL, DV.frz]
theorem all_succ {α : Type} {p : α -> Bool} {l : List α} {k : Nat} (h : k < l.length) : (l.take (k + 1)).all p = ((l.take k).all p && p l[k]) := by
 rw [List.take_succ_eq_append_getElem h, List.all_append]
 simp
theorem all_no {α : Type} {p : α -> Bool} {l : List α} {k : Nat} (h : k < l.length) (hb : p l[k] = false) : l.all p = false := by
 rw [List.all_eq_false]
 exact ⟨_, List.getElem_mem h, by simp [hb]⟩
@[go_sem] theorem frzLL_append : ∀ (l m : List (List DV)), frzLL (l ++ m) = frzLL l ++ frzLL m
 | [], m => rfl
 | x :: l, m => by simp [frzLL, frzLL_append l m]
@[go_sem] theorem clo_encI (l : List Inter) : clo (l.map encI) ↔ True := by
 simp only [iff_true]
 intro e he d hd
 obtain ⟨x, _, rfl⟩ := List.mem_map.1 he
 simp only [encI, List.mem_cons, List.not_mem_nil, or_false] at hd
 rcases hd with rfl | rfl | rfl <;> exact .int _ _
@[go_sem] theorem clo_encN (l : List Int) : clo (l.map encN) ↔ True := by
 simp only [iff_true]
 intro e he d hd
 obtain ⟨x, _, rfl⟩ := List.mem_map.1 he
 simp only [encN, List.mem_cons, List.not_mem_nil, or_false] at hd
 subst hd
 exact .int _ _
theorem clo_encE {l : List Ev} (h : ∀ x ∈ l, x.vals = none) : clo (l.map encE) := by
 intro e he d hd
 obtain ⟨x, hx, rfl⟩ := List.mem_map.1 he
 simp only [encE, List.mem_cons, List.not_mem_nil, or_false, h x hx, valsDV] at hd
 rcases hd with rfl | rfl | rfl | rfl | rfl <;> first | exact .int _ _ | exact .bool _ | exact .nil
theorem mem_encI {x : Inter} {d : DV} (h : d ∈ encI x) : d.flat = true := by
 simp only [encI, List.mem_cons, List.not_mem_nil, or_false] at h
 rcases h with rfl | rfl | rfl <;> rfl
theorem okI_of {els news : List (List DV)} (h1 : ∀ e ∈ news, ∃ x, e = encI x) (h2 : els.length + news.length <= 1000000000) : z_f 3 24 els news := by
 refine ⟨fun e he => ?_, fun e he => ?_, by omega, by unfold maxLen; omega, by omega⟩
 ·obtain ⟨x, rfl⟩ := h1 e he
  rw [List.all_eq_true]
  exact fun d hd => mem_encI hd
 ·obtain ⟨x, rfl⟩ := h1 e he
  rfl
set_option maxHeartbeats 64000000
theorem bytes_eq (a b : ByteArray) : (a == b) = decide (a = b) := by
 obtain ⟨a⟩ := a
 obtain ⟨b⟩ := b
 show ByteArray.beq ⟨a⟩ ⟨b⟩ = _
 unfold ByteArray.beq
 simp
 rw [Bool.eq_iff_iff]
 simp
def isDigit (c : Int) : Bool := decide (48 <= c) && decide (c <= 57)
def isLetter (c : Int) : Bool := (decide (97 <= c) && decide (c <= 122)) || (decide (65 <= c) && decide (c <= 90))
def isInner (c : Int) : Bool := isLetter c || isDigit c || decide (c = 95)
theorem f87 (c : Int) : Impl Tryd.prog 87 [.one (.int .u8 c)] (.one (.one (.bool (isDigit c)))) := by
 refine impl_intro z87.f z87.b rfl z87.r z87.n z87.t z87.d (by simp) fun hs => ?_
 simp only [slotsOf]
 conv => arg 2; reduce
 refine wN ?_
 simp [go_sem, isDigit]
theorem f79 (c : Int) : Impl Tryd.prog 79 [.one (.int .u8 c)] (.one (.one (.bool (isLetter c)))) := by
 refine impl_intro z79.f z79.b rfl z79.r z79.n z79.t z79.d (by simp) fun hs => ?_
 simp only [slotsOf]
 conv => arg 2; reduce
 refine wN ?_
 simp [go_sem, isLetter]
theorem f80 (c : Int) : Impl Tryd.prog 80 [.one (.int .u8 c)] (.one (.one (.bool (isInner c)))) := by
 refine impl_intro z80.f z80.b rfl z80.r z80.n z80.t z80.d (by simp) fun hs => ?_
 simp only [slotsOf]
 conv => arg 2; reduce
 cases hl : isLetter c with
 | true =>
   refine wV hl (f79 c) ?_
   simp [go_sem, isInner, hl]
 | false =>
   refine wV hl (aN (f79 c) (f87 c)) ?_
   simp [go_sem, isInner, hl]
   rfl
set_option maxHeartbeats 64000000
def encS (x : ByteArray) : List DV := [.str x]
def strL (s : ByteArray) : List Int := s.data.toList.map fun b => (b.toNat : Int)
theorem strL_len (s : ByteArray) : (strL s).length = s.size := by simp [strL]
theorem strL_get {s : ByteArray} {k : Nat} (h : k < s.size) : ∃ b : UInt8, s[k]? = some b /\ (b.toNat : Int) = (strL s)[k]'(by rw [strL_len]; exact h) := by
 refine ⟨s[k], by simp [h], ?_⟩
 simp [strL, ByteArray.getElem_eq_getElem_data]
theorem strL_at {s : ByteArray} {k : Nat} (h : k < s.size) : ((s[k]).toNat : Int) = (strL s)[k]'(by rw [strL_len]; exact h) := by
 simp [strL, ByteArray.getElem_eq_getElem_data]
theorem str_empty (s : ByteArray) : (s == ⟨#[]⟩) = decide (s.size = 0) := by
 rw [bytes_eq]
 by_cases h : s = ⟨#[]⟩
 ·subst h; rfl
 ·simp only [h, decide_false]
  symm
  rw [decide_eq_false_iff_not]
  intro h0
  apply h
  obtain ⟨d⟩ := s
  congr 1
  exact Array.eq_empty_of_size_eq_zero h0
def kws : List ByteArray := [⟨#[97, 103, 97, 105, 110]⟩, ⟨#[97, 110, 100]⟩, ⟨#[97, 115]⟩, ⟨#[97, 116]⟩, ⟨#[99, 97, 108, 108]⟩, ⟨#[99, 104, 111, 105, 99, 101]⟩, ⟨#[101, 108, 115, 101]⟩, ⟨#[102, 114, 111, 109]⟩, ⟨#[105, 102]⟩, ⟨#[105, 110, 116]⟩, ⟨#[108, 101, 110]⟩, ⟨#[108, 111, 111, 112]⟩, ⟨#[109, 101, 115, 115, 97, 103, 101]⟩, ⟨#[111, 102]⟩, ⟨#[111, 102, 102, 101, 114]⟩, ⟨#[111, 110]⟩, ⟨#[111, 114]⟩, ⟨#[112, 97, 114]⟩, ⟨#[112, 108, 97, 121, 115]⟩, ⟨#[112, 114, 111, 116, 111, 99, 111, 108]⟩, ⟨#[115, 101, 114, 118, 105, 99, 101]⟩, ⟨#[116, 101, 120, 116]⟩, ⟨#[116, 105, 109, 101, 115]⟩, ⟨#[116, 111]⟩, ⟨#[118, 97, 114]⟩, ⟨#[119, 104, 101, 114, 101]⟩, ⟨#[119, 104, 105, 108, 101]⟩, ⟨#[119, 105, 116, 104, 105, 110]⟩]
def isName (s : ByteArray) : Bool := !decide (s.size = 0) && decide (s.size <= 16) && isLetter ((strL s)[0]?.getD 0) && (strL s).all isInner
def hasS (l : List ByteArray) (s : ByteArray) : Bool := l.any (· == s)
def isWord (s : ByteArray) : Bool := isName s && !hasS kws s
theorem isName_zero {s : ByteArray} (h : s.size = 0) : isName s = false := by
 simp [isName, h]
theorem isName_pos {s : ByteArray} (h : 0 < s.size) : isName s = (decide (s.size <= 16) && isLetter ((strL s)[0]'(by rw [strL_len]; exact h)) && (strL s).all isInner) := by
 have h' : 0 < (strL s).length := by rw [strL_len]; exact h
 have h0 : ¬ s.size = 0 := by omega
 simp only [isName, h0, decide_false, Bool.not_false, Bool.true_and, List.getElem?_eq_getElem h', Option.getD_some]
theorem f68 (s : ByteArray) : Impl Tryd.prog 68 [.one (.str s)] (.one (.one (.bool (isName s)))) := by
 refine impl_z Tryd.func68 z68 Tryd.ntmps68 (by simp) ?_
 simp only [c68, slotsOf]
 have he := str_empty s
 by_cases h0 : s.size = 0
 ·have h0' : isName s = false := isName_zero h0
  refine wX (aN he h0) ?_
  simp [go_sem, h0']
 ·have hpos : 0 < s.size := by omega
  obtain ⟨b0, hb0, hn0⟩ := strL_get hpos
  have hn := isName_pos hpos
  rw [<- hn0] at hn
  by_cases h16 : s.size <= 16
  ·have h16' : ¬ (16 : Int) < (s.size : Int) := by omega
   cases hl : isLetter (b0.toNat : Int) with
   | false =>
     refine wV (aN he <| aN h0 <| aN h16' <| aN hb0 hl) (fun {x0_} => f79 x0_) ?_
     simp [go_sem, hn, hl]
   | true =>
     refine wV (aN he <| aN h0 <| aN h16' <| aN hb0 hl) (fun {x0_} => f79 x0_) ?_
     refine z_k (fun n e => ∃ k : Nat, k + n = s.size /\ ((strL s).take k).all isInner = true /\ e = [(19, .sv (.one (.int .i64 k))), (18, .sv (.one (.int .i64 s.size))), (0, .sv (.one (.str s)))]) s.size _ ⟨0, by simp, by simp, rfl⟩ (by simp [go_sem]) ?_
     rintro n e ⟨k, hk, hall, rfl⟩
     by_cases hlt : k < s.size
     ·have hbn := strL_at hlt
      have hlt' : k < (strL s).length := by rw [strL_len]; exact hlt
      cases hi : isInner ((s[k]).toNat : Int) with
      | false =>
        refine wV (aN hlt hi) (fun {x0_} => f80 x0_) ?_
        have := all_no hlt' (by rw [<- hbn]; exact hi)
        simp [go_sem, hn, this]
      | true =>
        refine wV (aN hlt hi) (fun {x0_} => f80 x0_) ?_
        refine z_j (n - 1) _ (by omega) ⟨k + 1, by omega, ?_, rfl⟩ ?_
        ·rw [all_succ hlt', hall, <- hbn, hi]; rfl
        ·simp [go_sem]
     ·have htk : (strL s).take k = strL s := List.take_of_length_le (by rw [strL_len]; omega)
      rw [htk] at hall
      refine wX hlt ?_
      simp [go_sem, hn, hl, h16, hall]
  ·have h16' : (16 : Int) < (s.size : Int) := by omega
   refine wX (aN he <| aN h0 <| aN h16' hb0) ?_
   simp [go_sem, hn, h16]
set_option maxHeartbeats 64000000
theorem any_succ {α : Type} {p : α -> Bool} {l : List α} {k : Nat} (h : k < l.length) : (l.take (k + 1)).any p = ((l.take k).any p || p l[k]) := by
 rw [List.take_succ_eq_append_getElem h, List.any_append]
 simp
def firstB {α : Type} (p : α -> Bool) (l : List α) : Int := match l.findIdx? p with
 | some i => (i : Int)
 | none => -1
theorem firstB_at {α : Type} {p : α -> Bool} {l : List α} {k : Nat} (hk : k < l.length) (h0 : (l.take k).any p = false) (h1 : p l[k] = true) : firstB p l = k := by
 have : l.findIdx? p = some k := by
  rw [List.findIdx?_eq_some_iff_getElem]
  refine ⟨hk, h1, fun j hj => ?_⟩
  rw [List.any_eq_false] at h0
  have := h0 (l[j]'(by omega)) (List.mem_iff_getElem.2 ⟨j, by rw [List.length_take]; omega, by simp⟩)
  simpa using this
 simp [firstB, this]
theorem firstB_none {α : Type} {p : α -> Bool} {l : List α} (h : l.any p = false) : firstB p l = -1 := by
 have : l.findIdx? p = none := by
  rw [List.findIdx?_eq_none_iff]
  intro x hx
  rw [List.any_eq_false] at h
  simpa using h x hx
 simp [firstB, this]
theorem firstB_any {α : Type} (p : α -> Bool) (l : List α) : decide (0 <= firstB p l) = l.any p := by
 cases h : l.any p with
 | false => rw [firstB_none h]; rfl
 | true =>
   unfold firstB
   cases h2 : l.findIdx? p with
   | none =>
     rw [List.findIdx?_eq_none_iff] at h2
     rw [List.any_eq_true] at h
     obtain ⟨x, hx, hp⟩ := h
     rw [h2 x hx] at hp
     cases hp
   | some i => simp
theorem any_bytes (l : List ByteArray) (x : ByteArray) : l.any (fun y => x == y) = hasS l x := by
 unfold hasS
 congr 1
 funext y
 rw [bytes_eq, bytes_eq]
 by_cases h : x = y
 ·subst h; rfl
 ·rw [decide_eq_false h, decide_eq_false (fun e => h e.symm)]
theorem f69 (l : List ByteArray) (x : ByteArray) (hl : l.length <= 1000000) : Impl Tryd.prog 69 [.one (.sl (l.map encS)), .one (.str x)] (.one (.one (.int .i64 (firstB (fun y => x == y) l)))) := by
 refine impl_v ?_
 refine wN ?_
 refine z_k (fun n e => ∃ k : Nat, k + n = l.length /\ (l.take k).any (fun y => x == y) = false /\ e = [(8, .sv (.one (.int .i64 k))), (7, .sv (.one (.int .i64 l.length))), (1, .sv (.one (.str x))), (0, .sv (.one (.sl (l.map encS))))]) l.length _ ⟨0, by simp, by simp, rfl⟩ (by simp [go_sem]) ?_
 rintro n e ⟨k, hk, h0, rfl⟩
 by_cases hlt : k < l.length
 ·cases hx : (x == l[k]) with
  | true =>
    have hf := firstB_at (p := fun y => x == y) hlt h0 hx
    refine wX (aN hlt <| aN encS.eq_1 hx) ?_
    simp [go_sem, hf]
  | false =>
    refine wX (aN hlt <| aN encS.eq_1 hx) ?_
    refine z_j (n - 1) _ (by omega) ⟨k + 1, by omega, ?_, rfl⟩ ?_
    ·rw [any_succ hlt, h0, hx]; rfl
    ·simp [go_sem]
 ·have hkl : l.take k = l := List.take_of_length_le (by omega)
  rw [hkl] at h0
  have hf := firstB_none h0
  refine wX hlt ?_
  simp [go_sem, hf]
theorem f53 (l : List ByteArray) (x : ByteArray) (hl : l.length <= 1000000) : Impl Tryd.prog 53 [.one (.sl (l.map encS)), .one (.str x)] (.one (.one (.bool (hasS l x)))) := by
 refine impl_v ?_
 have hf := firstB_any (fun y => x == y) l
 rw [any_bytes] at hf
 refine wC (f69 l x hl) ?_
 simp [go_sem, hf]
theorem kws_len : kws.length <= 1000000 := by decide
theorem f52 (s : ByteArray) : Impl Tryd.prog 52 [.one (.str s)] (.one (.one (.bool (isWord s)))) := by
 refine impl_z Tryd.func52 z52 Tryd.ntmps52 (by simp) ?_
 simp only [c52, slotsOf]
 have f53s := f53 kws s kws_len
 simp only [kws, List.map_cons, List.map_nil, encS] at f53s
 have hw : isWord s = (isName s && !hasS kws s) := rfl
 simp only [kws] at hw
 cases hn : isName s with
 | true =>
   refine wV hn (aN (f68 s) f53s) ?_
   simp [go_sem, hw, hn]
 | false =>
   refine wV hn (f68 s) ?_
   simp [go_sem, hw, hn]
set_option maxRecDepth 100000 in
theorem str_count (s : ByteArray) (c : UInt8) (w : World) :
  Calls Tryd.prog 89 #[.string s, .string ⟨#[c]⟩] w fun e w' => e = .returned (.int .i64 (Lib.countByte s.data.toList c)) /\ w' = w := by
 go_enter Tryd.func89, Tryd.ntmps89
 go_wp2
 rw [run_callFunc_extern Tryd.func93 (by kernel_rfl) (by kernel_rfl) (by kernel_rfl) (e := Extern.BytealgCount.count) (by kernel_rfl), Lib.run_countString]
 simp only [Result.andThen]
 rw [Oper.upon_value]
 go_wp2
 go_ret
 exact ⟨rfl, rfl⟩
set_option maxRecDepth 100000 in
theorem str_indexByte (s : ByteArray) (c : Int) (w : World) :
  Calls Tryd.prog 96 #[.string s, .int .u8 c] w fun e w' => e = .returned (.int .i64 (Lib.indexByte s.data.toList c.toNat.toUInt8)) /\ w' = w := by
 go_enter Tryd.func96, Tryd.ntmps96
 go_wp2
 rw [run_callFunc_extern Tryd.func100 (by kernel_rfl) (by kernel_rfl) (by kernel_rfl) (e := Extern.BytealgIndexByte.indexByte) (by kernel_rfl), Lib.run_indexByteString]
 simp only [Result.andThen]
 rw [Oper.upon_value]
 go_wp2
 go_ret
 exact ⟨rfl, rfl⟩
set_option maxRecDepth 100000 in
theorem str_index1 (s : ByteArray) (c : UInt8) (w : World) :
  Calls Tryd.prog 94 #[.string s, .string ⟨#[c]⟩] w fun e w' => e = .returned (.int .i64 (Lib.indexByte s.data.toList c)) /\ w' = w := by
 go_enter Tryd.func94, Tryd.ntmps94
 go_wp2_with (go_at_call 96; refine (str_indexByte _ _ _).mono ?_; rintro e w' ⟨rfl, rfl⟩)
 ·have h : ([c] == s.toList) = true := by assumption
  go_ret
  refine ⟨?_, rfl⟩
  have e : s.data.toList = [c] := by rw [<- Lib.toList_data]; exact (beq_iff_eq.1 h).symm
  rw [e]
  simp [Lib.indexByte]
 ·go_ret
  exact ⟨rfl, rfl⟩
theorem str_index (s : ByteArray) (c : UInt8) (w : World) :
  Calls Tryd.prog 90 #[.string s, .string ⟨#[c]⟩] w fun e w' => e = .returned (.int .i64 (Lib.indexByte s.data.toList c)) /\ w' = w := by
 go_enter Tryd.func90, Tryd.ntmps90
 go_wp2_with (go_at_call 94; refine (str_index1 _ _ _).mono ?_; rintro e w' ⟨rfl, rfl⟩)
 go_ret
 exact ⟨rfl, rfl⟩
theorem Impl.ofStr2 {P : Program} {f : FuncId} {fn : Func} (hf : P.funcs[f]? = some fn) (hb : fn.body.isSome = true) (hn : fn.name ≠ "runtime.NumGoroutine") {s t : ByteArray} {k : IntKind} {n : Int}
  (h : ∀ w, Calls P f #[.string s, .string t] w fun e w' => e = .returned (.int k n) /\ w' = w) : Impl P f [.one (.str s), .one (.str t)] (.one (.one (.int k n))) := by
 refine ⟨⟨fn, hf, hb, hn⟩, fun w S vs hS hv => ?_⟩
 have hvs : vs = [.string s, .string t] := by
  generalize hr : ([] : List Nat) = r at hv
  cases hv with
  | cons v x r vs xs rs h1 h2 =>
    cases h2 with
    | cons v' x' r' vs' xs' rs' h3 h4 =>
      cases h4
      cases CzS.one_inv h1
      cases CzS.one_inv h3
      rfl
 subst hvs
 refine (h w).mono ?_
 rintro e w' ⟨rfl, rfl⟩
 exact ⟨_, [], rfl, Below.refl _ _, by simp, by simp, .one _ _ _ (.one _ _ _ (.int _ _))⟩
def pieceL : List UInt8 -> List (List UInt8)
 | [] => [[]]
 | b :: l => if b = 46 then [] :: pieceL l else match pieceL l with
   | [] => [[b]]
   | p :: ps => (b :: p) :: ps
theorem pieceL_ne : ∀ (l : List UInt8), pieceL l ≠ []
 | [] => by simp [pieceL]
 | b :: l => by
   unfold pieceL
   split
   ·simp
   ·split <;> simp
theorem pieceL_no : ∀ {l : List UInt8}, 46 ∉ l -> pieceL l = [l]
 | [], _ => rfl
 | b :: l, h => by
   have h1 : b ≠ 46 := fun e => h (by simp [e])
   have h2 := pieceL_no (l := l) fun e => h (by simp [e])
   simp [pieceL, h1, h2]
theorem pieceL_at : ∀ {a l : List UInt8}, 46 ∉ a -> pieceL (a ++ 46 :: l) = a :: pieceL l
 | [], l, _ => by simp [pieceL]
 | b :: a, l, h => by
   have h1 : b ≠ 46 := fun e => h (by simp [e])
   have h2 := pieceL_at (a := a) (l := l) fun e => h (by simp [e])
   simp [pieceL, h1, h2]
def toB (l : List UInt8) : ByteArray := ⟨l.toArray⟩
theorem toB_list (s : ByteArray) : toB s.data.toList = s := by simp [toB]
theorem list_toB (l : List UInt8) : (toB l).data.toList = l := by simp [toB]
theorem size_toB (l : List UInt8) : (toB l).size = l.length := by simp [toB, ByteArray.size]
theorem extract_toB (l : List UInt8) (a b : Nat) : (toB l).extract a b = toB ((l.take b).drop a) := by
 have h : ((toB l).extract a b).data.toList = ((l.take b).drop a) := by
  rw [ByteArray.data_extract, Array.toList_extract, list_toB, List.extract_eq_take_drop, List.drop_take]
 rw [<- h, toB_list]
theorem index_at : ∀ {a l : List UInt8}, 46 ∉ a -> Lib.indexByte (a ++ 46 :: l) 46 = a.length
 | [], l, _ => by simp [Lib.indexByte]
 | b :: a, l, h => by
   have h1 : ¬ b = 46 := fun e => h (by simp [e])
   have h2 := index_at (a := a) (l := l) fun e => h (by simp [e])
   have h3 : ¬ ((a.length : Int) = -1) := by omega
   simp [Lib.indexByte, h1, h2, h3]
theorem split_at : ∀ (l : List UInt8), 46 ∈ l -> ∃ a b, l = a ++ 46 :: b /\ 46 ∉ a
 | [], h => by cases h
 | x :: l, h => by
   by_cases e : x = 46
   ·subst e
    exact ⟨[], l, rfl, by simp⟩
   ·rcases List.mem_cons.1 h with h | h
    ·exact (e h.symm).elim
    ·obtain ⟨a, b, rfl, h2⟩ := split_at l h
     exact ⟨x :: a, b, rfl, by simp [h2, Ne.symm e]⟩
theorem pieceL_len : ∀ (l : List UInt8), (pieceL l).length = Lib.countByte l 46 + 1
 | [] => rfl
 | b :: l => by
   have ih := pieceL_len l
   unfold pieceL
   simp only [Lib.countByte, List.count_cons] at ih ⊢
   split
   ·rename_i e
    subst e
    simp [ih]
   ·rename_i e
    have hn := pieceL_ne l
    split
    ·contradiction
    ·rename_i p ps hp
     rw [hp] at ih
     simp [e] at ih ⊢
     omega
def pieceB (s : ByteArray) : List ByteArray := (pieceL s.data.toList).map toB
end Go.Av
