/- Part of a proof. -/
import Derived.Test.YtbfebdbdoclagaaGreatDoorC0
import Derived.Test.YtbfebdbdoclagaaGreatDoorAvR
import Derived.Test.YtbfebdbdoclagaaGreatDoorProg
set_option linter.unusedVariables false
set_option linter.unusedSimpArgs false
set_option maxHeartbeats 64000000
set_option maxRecDepth 8000
namespace Go.Av
open Go Go.Proofs
@[go_sem] theorem ty_3 : kindT Tryz.prog 3 = some false /\ sizeT Tryz.prog 3 = some 1 /\ bytesT Tryz.prog 3 = some 8 /\ elT Tryz.prog 3 = none /\ arrT Tryz.prog 3 = none /\ intT Tryz.prog 3 = some IntKind.i64 /\ zeroT Tryz.prog 3 = some [DV.int IntKind.i64 0] /\ placesT Tryz.prog 3 = none /\ zero1 Tryz.prog 3 = some (KV.ki IntKind.i64 0) /\ cmpT Tryz.prog 20 3 = some [(0, 0)] := by and_intros <;> kernel_rfl
@[go_sem] theorem ty_4 : kindT Tryz.prog 4 = some false /\ sizeT Tryz.prog 4 = some 1 /\ bytesT Tryz.prog 4 = some 1 /\ elT Tryz.prog 4 = none /\ arrT Tryz.prog 4 = none /\ boolT Tryz.prog 4 = true /\ zeroT Tryz.prog 4 = some [DV.bool false] /\ placesT Tryz.prog 4 = none /\ zero1 Tryz.prog 4 = some (KV.kb false) /\ cmpT Tryz.prog 20 4 = some [(0, 1)] := by and_intros <;> kernel_rfl
@[go_sem] theorem ty_5 : kindT Tryz.prog 5 = some false /\ sizeT Tryz.prog 5 = some 1 /\ bytesT Tryz.prog 5 = some 1 /\ elT Tryz.prog 5 = none /\ arrT Tryz.prog 5 = none /\ intT Tryz.prog 5 = some IntKind.u8 /\ zeroT Tryz.prog 5 = some [DV.int IntKind.u8 0] /\ placesT Tryz.prog 5 = none /\ zero1 Tryz.prog 5 = some (KV.ki IntKind.u8 0) /\ cmpT Tryz.prog 20 5 = some [(0, 0)] := by and_intros <;> kernel_rfl
@[go_sem] theorem ty_9 : kindT Tryz.prog 9 = some false /\ sizeT Tryz.prog 9 = some 1 /\ bytesT Tryz.prog 9 = some 16 /\ elT Tryz.prog 9 = none /\ arrT Tryz.prog 9 = none /\ strT Tryz.prog 9 = true /\ zeroT Tryz.prog 9 = some [DV.str { data := #[] }] /\ placesT Tryz.prog 9 = none /\ zero1 Tryz.prog 9 = some (KV.ks { data := #[] }) /\ cmpT Tryz.prog 20 9 = some [(0, 2)] := by and_intros <;> kernel_rfl
@[go_sem] theorem ty_21 : kindT Tryz.prog 21 = some false /\ sizeT Tryz.prog 21 = some 1 /\ bytesT Tryz.prog 21 = some 4 /\ elT Tryz.prog 21 = none /\ arrT Tryz.prog 21 = none /\ intT Tryz.prog 21 = some IntKind.i32 /\ zeroT Tryz.prog 21 = some [DV.int IntKind.i32 0] /\ placesT Tryz.prog 21 = none /\ zero1 Tryz.prog 21 = some (KV.ki IntKind.i32 0) /\ cmpT Tryz.prog 20 21 = some [(0, 0)] := by and_intros <;> kernel_rfl
@[go_sem] theorem ty_22 : kindT Tryz.prog 22 = some false /\ sizeT Tryz.prog 22 = some 1 /\ bytesT Tryz.prog 22 = some 24 /\ elT Tryz.prog 22 = some 9 /\ arrT Tryz.prog 22 = none /\ zeroT Tryz.prog 22 = some [DV.nil] /\ placesT Tryz.prog 22 = none := by and_intros <;> kernel_rfl
@[go_sem] theorem ty_23 : kindT Tryz.prog 23 = some false /\ sizeT Tryz.prog 23 = some 1 /\ bytesT Tryz.prog 23 = some 24 /\ elT Tryz.prog 23 = some 96 /\ arrT Tryz.prog 23 = none /\ zeroT Tryz.prog 23 = some [DV.nil] /\ placesT Tryz.prog 23 = none := by and_intros <;> kernel_rfl
@[go_sem] theorem ty_24 : kindT Tryz.prog 24 = some false /\ sizeT Tryz.prog 24 = some 1 /\ bytesT Tryz.prog 24 = some 24 /\ elT Tryz.prog 24 = some 44 /\ arrT Tryz.prog 24 = none /\ zeroT Tryz.prog 24 = some [DV.nil] /\ placesT Tryz.prog 24 = none := by and_intros <;> kernel_rfl
@[go_sem] theorem ty_25 : kindT Tryz.prog 25 = some false /\ sizeT Tryz.prog 25 = some 1 /\ bytesT Tryz.prog 25 = some 24 /\ elT Tryz.prog 25 = some 139 /\ arrT Tryz.prog 25 = none /\ zeroT Tryz.prog 25 = some [DV.nil] /\ placesT Tryz.prog 25 = none := by and_intros <;> kernel_rfl
@[go_sem] theorem ty_27 : kindT Tryz.prog 27 = some true /\ sizeT Tryz.prog 27 = some 8 /\ bytesT Tryz.prog 27 = some 136 /\ elT Tryz.prog 27 = none /\ arrT Tryz.prog 27 = none /\ zeroT Tryz.prog 27 = some [DV.str { data := #[] }, DV.nil, DV.nil, DV.int IntKind.i64 0, DV.int IntKind.i64 0, DV.int IntKind.i64 0, DV.nil, DV.nil] /\ placesT Tryz.prog 27 = some [(0, 1), (1, 1), (2, 1), (3, 1), (4, 1), (5, 1), (6, 1), (7, 1)] /\ fldT Tryz.prog 27 0 = some (0, 9) /\ fldT Tryz.prog 27 1 = some (1, 22) /\ fldT Tryz.prog 27 2 = some (2, 23) /\ fldT Tryz.prog 27 3 = some (3, 3) /\ fldT Tryz.prog 27 4 = some (4, 3) /\ fldT Tryz.prog 27 5 = some (5, 3) /\ fldT Tryz.prog 27 6 = some (6, 24) /\ fldT Tryz.prog 27 7 = some (7, 25) := by and_intros <;> kernel_rfl
@[go_sem] theorem ty_30 : kindT Tryz.prog 30 = some false /\ sizeT Tryz.prog 30 = some 1 /\ bytesT Tryz.prog 30 = some 24 /\ elT Tryz.prog 30 = some 39 /\ arrT Tryz.prog 30 = none /\ zeroT Tryz.prog 30 = some [DV.nil] /\ placesT Tryz.prog 30 = none := by and_intros <;> kernel_rfl
@[go_sem] theorem ty_31 : kindT Tryz.prog 31 = some false /\ sizeT Tryz.prog 31 = some 1 /\ bytesT Tryz.prog 31 = some 8 /\ elT Tryz.prog 31 = none /\ arrT Tryz.prog 31 = none /\ intT Tryz.prog 31 = some IntKind.i64 /\ zeroT Tryz.prog 31 = some [DV.int IntKind.i64 0] /\ placesT Tryz.prog 31 = none /\ zero1 Tryz.prog 31 = some (KV.ki IntKind.i64 0) /\ cmpT Tryz.prog 20 31 = some [(0, 0)] := by and_intros <;> kernel_rfl
@[go_sem] theorem ty_34 : kindT Tryz.prog 34 = some false /\ sizeT Tryz.prog 34 = some 1 /\ bytesT Tryz.prog 34 = some 24 /\ elT Tryz.prog 34 = some 38 /\ arrT Tryz.prog 34 = none /\ zeroT Tryz.prog 34 = some [DV.nil] /\ placesT Tryz.prog 34 = none := by and_intros <;> kernel_rfl
@[go_sem] theorem ty_38 : kindT Tryz.prog 38 = some true /\ sizeT Tryz.prog 38 = some 2 /\ bytesT Tryz.prog 38 = some 16 /\ elT Tryz.prog 38 = none /\ arrT Tryz.prog 38 = none /\ zeroT Tryz.prog 38 = some [DV.int IntKind.i64 0, DV.int IntKind.i64 0] /\ placesT Tryz.prog 38 = some [(0, 1), (1, 1)] /\ cmpT Tryz.prog 20 38 = some [(0, 0), (1, 0)] /\ fldT Tryz.prog 38 0 = some (0, 3) /\ fldT Tryz.prog 38 1 = some (1, 3) := by and_intros <;> kernel_rfl
@[go_sem] theorem ty_39 : kindT Tryz.prog 39 = some true /\ sizeT Tryz.prog 39 = some 2 /\ bytesT Tryz.prog 39 = some 16 /\ elT Tryz.prog 39 = none /\ arrT Tryz.prog 39 = none /\ zeroT Tryz.prog 39 = some [DV.int IntKind.i64 0, DV.int IntKind.i64 0] /\ placesT Tryz.prog 39 = some [(0, 1), (1, 1)] /\ cmpT Tryz.prog 20 39 = some [(0, 0), (1, 0)] /\ fldT Tryz.prog 39 0 = some (0, 3) /\ fldT Tryz.prog 39 1 = some (1, 3) := by and_intros <;> kernel_rfl
@[go_sem] theorem ty_42 : kindT Tryz.prog 42 = some true /\ sizeT Tryz.prog 42 = some 3 /\ bytesT Tryz.prog 42 = some 24 /\ elT Tryz.prog 42 = none /\ arrT Tryz.prog 42 = none /\ zeroT Tryz.prog 42 = some [DV.int IntKind.i64 0, DV.int IntKind.i64 0, DV.int IntKind.i64 0] /\ placesT Tryz.prog 42 = some [(0, 1), (1, 1), (2, 1)] /\ cmpT Tryz.prog 20 42 = some [(0, 0), (1, 0), (2, 0)] /\ fldT Tryz.prog 42 0 = some (0, 3) /\ fldT Tryz.prog 42 1 = some (1, 3) /\ fldT Tryz.prog 42 2 = some (2, 3) := by and_intros <;> kernel_rfl
@[go_sem] theorem ty_44 : kindT Tryz.prog 44 = some true /\ sizeT Tryz.prog 44 = some 6 /\ bytesT Tryz.prog 44 = some 48 /\ elT Tryz.prog 44 = none /\ arrT Tryz.prog 44 = none /\ zeroT Tryz.prog 44 = some [DV.int IntKind.i64 0, DV.int IntKind.i64 0, DV.int IntKind.i64 0, DV.int IntKind.i64 0, DV.int IntKind.i64 0, DV.bool false] /\ placesT Tryz.prog 44 = some [(0, 1), (1, 3), (4, 1), (5, 1)] /\ cmpT Tryz.prog 20 44 = some [(0, 0), (1, 0), (2, 0), (3, 0), (4, 0), (5, 1)] /\ fldT Tryz.prog 44 0 = some (0, 3) /\ fldT Tryz.prog 44 1 = some (1, 42) /\ fldT Tryz.prog 44 2 = some (4, 3) /\ fldT Tryz.prog 44 3 = some (5, 4) := by and_intros <;> kernel_rfl
@[go_sem] theorem ty_46 : kindT Tryz.prog 46 = some false /\ sizeT Tryz.prog 46 = some 1 /\ bytesT Tryz.prog 46 = some 24 /\ elT Tryz.prog 46 = some 42 /\ arrT Tryz.prog 46 = none /\ zeroT Tryz.prog 46 = some [DV.nil] /\ placesT Tryz.prog 46 = none := by and_intros <;> kernel_rfl
@[go_sem] theorem ty_47 : kindT Tryz.prog 47 = some false /\ sizeT Tryz.prog 47 = some 1 /\ bytesT Tryz.prog 47 = some 24 /\ elT Tryz.prog 47 = some 3 /\ arrT Tryz.prog 47 = none /\ zeroT Tryz.prog 47 = some [DV.nil] /\ placesT Tryz.prog 47 = none := by and_intros <;> kernel_rfl
@[go_sem] theorem ty_59 : kindT Tryz.prog 59 = some false /\ sizeT Tryz.prog 59 = some 1 /\ bytesT Tryz.prog 59 = some 24 /\ elT Tryz.prog 59 = some 5 /\ arrT Tryz.prog 59 = none /\ zeroT Tryz.prog 59 = some [DV.nil] /\ placesT Tryz.prog 59 = none := by and_intros <;> kernel_rfl
@[go_sem] theorem ty_60 : kindT Tryz.prog 60 = some false /\ sizeT Tryz.prog 60 = some 1 /\ bytesT Tryz.prog 60 = some 0 /\ elT Tryz.prog 60 = none /\ arrT Tryz.prog 60 = none /\ placesT Tryz.prog 60 = none := by and_intros <;> kernel_rfl
@[go_sem] theorem ty_61 : kindT Tryz.prog 61 = some false /\ sizeT Tryz.prog 61 = some 1 /\ bytesT Tryz.prog 61 = some 8 /\ elT Tryz.prog 61 = none /\ arrT Tryz.prog 61 = none /\ placesT Tryz.prog 61 = none := by and_intros <;> kernel_rfl
@[go_sem] theorem ty_63 : kindT Tryz.prog 63 = some false /\ sizeT Tryz.prog 63 = some 1 /\ bytesT Tryz.prog 63 = some 8 /\ elT Tryz.prog 63 = none /\ arrT Tryz.prog 63 = none /\ placesT Tryz.prog 63 = none := by and_intros <;> kernel_rfl
@[go_sem] theorem ty_64 : kindT Tryz.prog 64 = some false /\ sizeT Tryz.prog 64 = some 1 /\ bytesT Tryz.prog 64 = some 24 /\ elT Tryz.prog 64 = some 68 /\ arrT Tryz.prog 64 = none /\ zeroT Tryz.prog 64 = some [DV.nil] /\ placesT Tryz.prog 64 = none := by and_intros <;> kernel_rfl
@[go_sem] theorem ty_68 : kindT Tryz.prog 68 = some true /\ sizeT Tryz.prog 68 = some 3 /\ bytesT Tryz.prog 68 = some 40 /\ elT Tryz.prog 68 = none /\ arrT Tryz.prog 68 = none /\ zeroT Tryz.prog 68 = some [DV.int IntKind.i64 0, DV.int IntKind.i64 0, DV.nil] /\ placesT Tryz.prog 68 = some [(0, 2), (2, 1)] /\ fldT Tryz.prog 68 0 = some (0, 39) /\ fldT Tryz.prog 68 1 = some (2, 46) := by and_intros <;> kernel_rfl
@[go_sem] theorem ty_74 : kindT Tryz.prog 74 = some false /\ sizeT Tryz.prog 74 = some 1 /\ bytesT Tryz.prog 74 = some 24 /\ elT Tryz.prog 74 = some 77 /\ arrT Tryz.prog 74 = none /\ zeroT Tryz.prog 74 = some [DV.nil] /\ placesT Tryz.prog 74 = none := by and_intros <;> kernel_rfl
@[go_sem] theorem ty_77 : kindT Tryz.prog 77 = some true /\ sizeT Tryz.prog 77 = some 3 /\ bytesT Tryz.prog 77 = some 40 /\ elT Tryz.prog 77 = none /\ arrT Tryz.prog 77 = none /\ zeroT Tryz.prog 77 = some [DV.int IntKind.i64 0, DV.int IntKind.i64 0, DV.nil] /\ placesT Tryz.prog 77 = some [(0, 2), (2, 1)] /\ fldT Tryz.prog 77 0 = some (0, 38) /\ fldT Tryz.prog 77 1 = some (2, 46) := by and_intros <;> kernel_rfl
@[go_sem] theorem ty_83 : kindT Tryz.prog 83 = some false /\ sizeT Tryz.prog 83 = some 1 /\ bytesT Tryz.prog 83 = some 24 /\ elT Tryz.prog 83 = some 86 /\ arrT Tryz.prog 83 = none /\ zeroT Tryz.prog 83 = some [DV.nil] /\ placesT Tryz.prog 83 = none := by and_intros <;> kernel_rfl
@[go_sem] theorem ty_86 : kindT Tryz.prog 86 = some true /\ sizeT Tryz.prog 86 = some 3 /\ bytesT Tryz.prog 86 = some 40 /\ elT Tryz.prog 86 = none /\ arrT Tryz.prog 86 = none /\ zeroT Tryz.prog 86 = some [DV.int IntKind.i64 0, DV.int IntKind.i64 0, DV.nil] /\ placesT Tryz.prog 86 = some [(0, 2), (2, 1)] /\ fldT Tryz.prog 86 0 = some (0, 38) /\ fldT Tryz.prog 86 1 = some (2, 46) := by and_intros <;> kernel_rfl
@[go_sem] theorem ty_90 : kindT Tryz.prog 90 = some false /\ sizeT Tryz.prog 90 = some 1 /\ bytesT Tryz.prog 90 = some 24 /\ elT Tryz.prog 90 = some 167 /\ arrT Tryz.prog 90 = none /\ zeroT Tryz.prog 90 = some [DV.nil] /\ placesT Tryz.prog 90 = none := by and_intros <;> kernel_rfl
@[go_sem] theorem ty_91 : kindT Tryz.prog 91 = some false /\ sizeT Tryz.prog 91 = some 1 /\ bytesT Tryz.prog 91 = some 24 /\ elT Tryz.prog 91 = some 183 /\ arrT Tryz.prog 91 = none /\ zeroT Tryz.prog 91 = some [DV.nil] /\ placesT Tryz.prog 91 = none := by and_intros <;> kernel_rfl
@[go_sem] theorem ty_92 : kindT Tryz.prog 92 = some false /\ sizeT Tryz.prog 92 = some 1 /\ bytesT Tryz.prog 92 = some 24 /\ elT Tryz.prog 92 = some 185 /\ arrT Tryz.prog 92 = none /\ zeroT Tryz.prog 92 = some [DV.nil] /\ placesT Tryz.prog 92 = none := by and_intros <;> kernel_rfl
@[go_sem] theorem ty_94 : kindT Tryz.prog 94 = some true /\ sizeT Tryz.prog 94 = some 2 /\ bytesT Tryz.prog 94 = some 48 /\ elT Tryz.prog 94 = none /\ arrT Tryz.prog 94 = none /\ zeroT Tryz.prog 94 = some [DV.nil, DV.nil] /\ placesT Tryz.prog 94 = some [(0, 1), (1, 1)] /\ fldT Tryz.prog 94 0 = some (0, 91) /\ fldT Tryz.prog 94 1 = some (1, 92) := by and_intros <;> kernel_rfl
@[go_sem] theorem ty_96 : kindT Tryz.prog 96 = some true /\ sizeT Tryz.prog 96 = some 5 /\ bytesT Tryz.prog 96 = some 96 /\ elT Tryz.prog 96 = none /\ arrT Tryz.prog 96 = none /\ zeroT Tryz.prog 96 = some [DV.str { data := #[] }, DV.nil, DV.int IntKind.i64 0, DV.nil, DV.nil] /\ placesT Tryz.prog 96 = some [(0, 1), (1, 1), (2, 1), (3, 2)] /\ fldT Tryz.prog 96 0 = some (0, 9) /\ fldT Tryz.prog 96 1 = some (1, 90) /\ fldT Tryz.prog 96 2 = some (2, 3) /\ fldT Tryz.prog 96 3 = some (3, 94) := by and_intros <;> kernel_rfl
@[go_sem] theorem ty_97 : kindT Tryz.prog 97 = some false /\ sizeT Tryz.prog 97 = some 1 /\ bytesT Tryz.prog 97 = some 24 /\ elT Tryz.prog 97 = some 24 /\ arrT Tryz.prog 97 = none /\ zeroT Tryz.prog 97 = some [DV.nil] /\ placesT Tryz.prog 97 = none := by and_intros <;> kernel_rfl
@[go_sem] theorem ty_102 : kindT Tryz.prog 102 = some true /\ sizeT Tryz.prog 102 = some 3 /\ bytesT Tryz.prog 102 = some 16 /\ elT Tryz.prog 102 = none /\ arrT Tryz.prog 102 = none /\ zeroT Tryz.prog 102 = some [DV.int IntKind.i64 0, DV.int IntKind.u8 0, DV.int IntKind.u8 0] /\ placesT Tryz.prog 102 = some [(0, 1), (1, 1), (2, 1)] /\ cmpT Tryz.prog 20 102 = some [(0, 0), (1, 0), (2, 0)] /\ fldT Tryz.prog 102 0 = some (0, 3) /\ fldT Tryz.prog 102 1 = some (1, 5) /\ fldT Tryz.prog 102 2 = some (2, 5) := by and_intros <;> kernel_rfl
@[go_sem] theorem ty_103 : kindT Tryz.prog 103 = some false /\ sizeT Tryz.prog 103 = some 1 /\ bytesT Tryz.prog 103 = some 8 /\ elT Tryz.prog 103 = none /\ arrT Tryz.prog 103 = none /\ zeroT Tryz.prog 103 = some [DV.raw (Value.map none)] /\ placesT Tryz.prog 103 = none /\ mapT Tryz.prog 103 = some (102, 4) := by and_intros <;> kernel_rfl
@[go_sem] theorem ty_105 : kindT Tryz.prog 105 = some true /\ sizeT Tryz.prog 105 = some 7 /\ bytesT Tryz.prog 105 = some 48 /\ elT Tryz.prog 105 = none /\ arrT Tryz.prog 105 = none /\ zeroT Tryz.prog 105 = some [DV.int IntKind.i64 0, DV.int IntKind.u8 0, DV.int IntKind.u8 0, DV.int IntKind.i64 0, DV.int IntKind.i64 0, DV.int IntKind.i64 0, DV.int IntKind.i64 0] /\ placesT Tryz.prog 105 = some [(0, 3), (3, 1), (4, 3)] /\ cmpT Tryz.prog 20 105 = some [(0, 0), (1, 0), (2, 0), (3, 0), (4, 0), (5, 0), (6, 0)] /\ fldT Tryz.prog 105 0 = some (0, 102) /\ fldT Tryz.prog 105 1 = some (3, 3) /\ fldT Tryz.prog 105 2 = some (4, 42) := by and_intros <;> kernel_rfl
@[go_sem] theorem ty_106 : kindT Tryz.prog 106 = some false /\ sizeT Tryz.prog 106 = some 1 /\ bytesT Tryz.prog 106 = some 24 /\ elT Tryz.prog 106 = some 105 /\ arrT Tryz.prog 106 = none /\ zeroT Tryz.prog 106 = some [DV.nil] /\ placesT Tryz.prog 106 = none := by and_intros <;> kernel_rfl
@[go_sem] theorem ty_111 : kindT Tryz.prog 111 = some false /\ sizeT Tryz.prog 111 = some 1 /\ bytesT Tryz.prog 111 = some 8 /\ elT Tryz.prog 111 = none /\ arrT Tryz.prog 111 = none /\ intT Tryz.prog 111 = some IntKind.u64 /\ zeroT Tryz.prog 111 = some [DV.int IntKind.u64 0] /\ placesT Tryz.prog 111 = none /\ zero1 Tryz.prog 111 = some (KV.ki IntKind.u64 0) /\ cmpT Tryz.prog 20 111 = some [(0, 0)] := by and_intros <;> kernel_rfl
@[go_sem] theorem ty_112 : kindT Tryz.prog 112 = some false /\ sizeT Tryz.prog 112 = some 1 /\ bytesT Tryz.prog 112 = some 8 /\ elT Tryz.prog 112 = none /\ arrT Tryz.prog 112 = none /\ placesT Tryz.prog 112 = none := by and_intros <;> kernel_rfl
@[go_sem] theorem ty_116 : kindT Tryz.prog 116 = some true /\ sizeT Tryz.prog 116 = some 4 /\ bytesT Tryz.prog 116 = some 48 /\ elT Tryz.prog 116 = none /\ arrT Tryz.prog 116 = none /\ zeroT Tryz.prog 116 = some [DV.int IntKind.i64 0, DV.int IntKind.i64 0, DV.int IntKind.i64 0, DV.nil] /\ placesT Tryz.prog 116 = some [(0, 1), (1, 1), (2, 1), (3, 1)] /\ fldT Tryz.prog 116 0 = some (0, 3) /\ fldT Tryz.prog 116 1 = some (1, 3) /\ fldT Tryz.prog 116 2 = some (2, 3) /\ fldT Tryz.prog 116 3 = some (3, 46) := by and_intros <;> kernel_rfl
@[go_sem] theorem ty_117 : kindT Tryz.prog 117 = some false /\ sizeT Tryz.prog 117 = some 1 /\ bytesT Tryz.prog 117 = some 24 /\ elT Tryz.prog 117 = some 116 /\ arrT Tryz.prog 117 = none /\ zeroT Tryz.prog 117 = some [DV.nil] /\ placesT Tryz.prog 117 = none := by and_intros <;> kernel_rfl
@[go_sem] theorem ty_118 : kindT Tryz.prog 118 = some false /\ sizeT Tryz.prog 118 = some 1 /\ bytesT Tryz.prog 118 = some 24 /\ elT Tryz.prog 118 = some 4 /\ arrT Tryz.prog 118 = none /\ zeroT Tryz.prog 118 = some [DV.nil] /\ placesT Tryz.prog 118 = none := by and_intros <;> kernel_rfl
@[go_sem] theorem ty_132 : kindT Tryz.prog 132 = some false /\ sizeT Tryz.prog 132 = some 1 /\ bytesT Tryz.prog 132 = some 4 /\ elT Tryz.prog 132 = none /\ arrT Tryz.prog 132 = none /\ intT Tryz.prog 132 = some IntKind.u32 /\ zeroT Tryz.prog 132 = some [DV.int IntKind.u32 0] /\ placesT Tryz.prog 132 = none /\ zero1 Tryz.prog 132 = some (KV.ki IntKind.u32 0) /\ cmpT Tryz.prog 20 132 = some [(0, 0)] := by and_intros <;> kernel_rfl
@[go_sem] theorem ty_134 : kindT Tryz.prog 134 = some false /\ sizeT Tryz.prog 134 = some 1 /\ bytesT Tryz.prog 134 = some 8 /\ elT Tryz.prog 134 = none /\ arrT Tryz.prog 134 = none /\ intT Tryz.prog 134 = some IntKind.u64 /\ zeroT Tryz.prog 134 = some [DV.int IntKind.u64 0] /\ placesT Tryz.prog 134 = none /\ zero1 Tryz.prog 134 = some (KV.ki IntKind.u64 0) /\ cmpT Tryz.prog 20 134 = some [(0, 0)] := by and_intros <;> kernel_rfl
@[go_sem] theorem ty_139 : kindT Tryz.prog 139 = some true /\ sizeT Tryz.prog 139 = some 3 /\ bytesT Tryz.prog 139 = some 24 /\ elT Tryz.prog 139 = none /\ arrT Tryz.prog 139 = none /\ zeroT Tryz.prog 139 = some [DV.int IntKind.i64 0, DV.int IntKind.i64 0, DV.int IntKind.i64 0] /\ placesT Tryz.prog 139 = some [(0, 1), (1, 1), (2, 1)] /\ cmpT Tryz.prog 20 139 = some [(0, 0), (1, 0), (2, 0)] /\ fldT Tryz.prog 139 0 = some (0, 3) /\ fldT Tryz.prog 139 1 = some (1, 3) /\ fldT Tryz.prog 139 2 = some (2, 3) := by and_intros <;> kernel_rfl
@[go_sem] theorem ty_165 : kindT Tryz.prog 165 = some true /\ sizeT Tryz.prog 165 = some 3 /\ bytesT Tryz.prog 165 = some 24 /\ elT Tryz.prog 165 = none /\ arrT Tryz.prog 165 = none /\ zeroT Tryz.prog 165 = some [DV.int IntKind.i64 0, DV.int IntKind.i64 0, DV.int IntKind.i64 0] /\ placesT Tryz.prog 165 = some [(0, 1), (1, 1), (2, 1)] /\ cmpT Tryz.prog 20 165 = some [(0, 0), (1, 0), (2, 0)] /\ fldT Tryz.prog 165 0 = some (0, 3) /\ fldT Tryz.prog 165 1 = some (1, 3) /\ fldT Tryz.prog 165 2 = some (2, 3) := by and_intros <;> kernel_rfl
@[go_sem] theorem ty_167 : kindT Tryz.prog 167 = some true /\ sizeT Tryz.prog 167 = some 4 /\ bytesT Tryz.prog 167 = some 40 /\ elT Tryz.prog 167 = none /\ arrT Tryz.prog 167 = none /\ zeroT Tryz.prog 167 = some [DV.str { data := #[] }, DV.int IntKind.i64 0, DV.int IntKind.i64 0, DV.int IntKind.i64 0] /\ placesT Tryz.prog 167 = some [(0, 1), (1, 3)] /\ cmpT Tryz.prog 20 167 = some [(0, 2), (1, 0), (2, 0), (3, 0)] /\ fldT Tryz.prog 167 0 = some (0, 9) /\ fldT Tryz.prog 167 1 = some (1, 165) := by and_intros <;> kernel_rfl
@[go_sem] theorem ty_172 : kindT Tryz.prog 172 = some true /\ sizeT Tryz.prog 172 = some 28 /\ bytesT Tryz.prog 172 = some 448 /\ elT Tryz.prog 172 = none /\ arrT Tryz.prog 172 = some (28, 9) /\ zeroT Tryz.prog 172 = some [DV.str { data := #[] }, DV.str { data := #[] }, DV.str { data := #[] }, DV.str { data := #[] }, DV.str { data := #[] }, DV.str { data := #[] }, DV.str { data := #[] }, DV.str { data := #[] }, DV.str { data := #[] }, DV.str { data := #[] }, DV.str { data := #[] }, DV.str { data := #[] }, DV.str { data := #[] }, DV.str { data := #[] }, DV.str { data := #[] }, DV.str { data := #[] }, DV.str { data := #[] }, DV.str { data := #[] }, DV.str { data := #[] }, DV.str { data := #[] }, DV.str { data := #[] }, DV.str { data := #[] }, DV.str { data := #[] }, DV.str { data := #[] }, DV.str { data := #[] }, DV.str { data := #[] }, DV.str { data := #[] }, DV.str { data := #[] }] /\ placesT Tryz.prog 172 = none /\ cmpT Tryz.prog 20 172 = some [(0, 2), (1, 2), (2, 2), (3, 2), (4, 2), (5, 2), (6, 2), (7, 2), (8, 2), (9, 2), (10, 2), (11, 2), (12, 2), (13, 2), (14, 2), (15, 2), (16, 2), (17, 2), (18, 2), (19, 2), (20, 2), (21, 2), (22, 2), (23, 2), (24, 2), (25, 2), (26, 2), (27, 2)] := by and_intros <;> kernel_rfl
@[go_sem] theorem ty_183 : kindT Tryz.prog 183 = some true /\ sizeT Tryz.prog 183 = some 3 /\ bytesT Tryz.prog 183 = some 24 /\ elT Tryz.prog 183 = none /\ arrT Tryz.prog 183 = none /\ zeroT Tryz.prog 183 = some [DV.int IntKind.i64 0, DV.int IntKind.i64 0, DV.int IntKind.i64 0] /\ placesT Tryz.prog 183 = some [(0, 1), (1, 1), (2, 1)] /\ cmpT Tryz.prog 20 183 = some [(0, 0), (1, 0), (2, 0)] /\ fldT Tryz.prog 183 0 = some (0, 3) /\ fldT Tryz.prog 183 1 = some (1, 3) /\ fldT Tryz.prog 183 2 = some (2, 3) := by and_intros <;> kernel_rfl
@[go_sem] theorem ty_185 : kindT Tryz.prog 185 = some true /\ sizeT Tryz.prog 185 = some 2 /\ bytesT Tryz.prog 185 = some 16 /\ elT Tryz.prog 185 = none /\ arrT Tryz.prog 185 = some (2, 3) /\ zeroT Tryz.prog 185 = some [DV.int IntKind.i64 0, DV.int IntKind.i64 0] /\ placesT Tryz.prog 185 = none /\ cmpT Tryz.prog 20 185 = some [(0, 0), (1, 0)] := by and_intros <;> kernel_rfl
end Go.Av
namespace Go.Av
open Go Go.RowKit Go.Proofs
set_option maxHeartbeats 64000000
structure Inter where
 from_ : Int
 to : Int
 label : Int
 deriving DecidableEq
def encI (x : Inter) : List DV := [.int .i64 x.from_, .int .i64 x.to, .int .i64 x.label]
structure Ev where
 role : Int
 send : Bool
 peer : Int
 label : Int
 vals : Option (List (List DV))
def valsDV : Option (List (List DV)) -> DV
 | none => .nil
 | some els => .sl els
@[go_sem ↓ high] theorem flat_vals (o : Option (List (List DV))) : (valsDV o).flat = true := by cases o <;> rfl
@[go_sem ↓ high] theorem frz_vals (o : Option (List (List DV))) : (valsDV o).frz = valsDV o := by cases o <;> rfl
def encE (x : Ev) : List DV := [.int .i64 x.role, .bool x.send, .int .i64 x.peer, .int .i64 x.label, valsDV x.vals]
def encH (x : List Ev) : List DV := [.sl (x.map encE)]
def encN (x : Int) : List DV := [.int .i64 x]
@[go_sem ↓ high] theorem frz_encI (x : Inter) : frzL (encI x) = encI x := by simp [encI, frzL, DV.frz]
@[go_sem ↓ high] theorem frz_encE (x : Ev) : frzL (encE x) = encE x := by simp [encE, frzL, DV.frz, frz_vals]
@[go_sem ↓ high] theorem frz_encN (x : Int) : frzL (encN x) = encN x := by simp [encN, frzL, DV.frz]
@[go_sem ↓ high] theorem frz_encH (x : List Ev) : frzL (encH x) = encH x := by simp [encH, frzL, DV.frz]
theorem all_succ {α : Type} {p : α -> Bool} {l : List α} {k : Nat} (h : k < l.length) : (l.take (k + 1)).all p = ((l.take k).all p && p l[k]) := by
 rw [List.take_succ_eq_append_getElem h, List.all_append]
 simp
theorem all_no {α : Type} {p : α -> Bool} {l : List α} {k : Nat} (h : k < l.length) (hb : p l[k] = false) : l.all p = false := by
 rw [List.all_eq_false]
 exact ⟨_, List.getElem_mem h, by simp [hb]⟩
@[go_sem] theorem frzLL_append : ∀ (l m : List (List DV)), frzLL (l ++ m) = frzLL l ++ frzLL m
 | [], m => rfl
 | x :: l, m => by simp [frzLL, frzLL_append l m]
@[go_sem] theorem clo_encI (l : List Inter) : clo (l.map encI) ↔ True := by
 simp only [iff_true]
 intro e he d hd
 obtain ⟨x, _, rfl⟩ := List.mem_map.1 he
 simp only [encI, List.mem_cons, List.not_mem_nil, or_false] at hd
 rcases hd with rfl | rfl | rfl <;> exact .int _ _
@[go_sem] theorem clo_encN (l : List Int) : clo (l.map encN) ↔ True := by
 simp only [iff_true]
 intro e he d hd
 obtain ⟨x, _, rfl⟩ := List.mem_map.1 he
 simp only [encN, List.mem_cons, List.not_mem_nil, or_false] at hd
 subst hd
 exact .int _ _
theorem mem_encI {x : Inter} {d : DV} (h : d ∈ encI x) : d.flat = true := by
 simp only [encI, List.mem_cons, List.not_mem_nil, or_false] at h
 rcases h with rfl | rfl | rfl <;> rfl
theorem okI_of {els news : List (List DV)} (h1 : ∀ e ∈ news, ∃ x, e = encI x) (h2 : els.length + news.length <= 1000000000) : z_f 3 24 els news := by
 refine ⟨fun e he => ?_, fun e he => ?_, by omega, by unfold maxLen; omega, by omega⟩
 ·obtain ⟨x, rfl⟩ := h1 e he
  rw [List.all_eq_true]
  exact fun d hd => mem_encI hd
 ·obtain ⟨x, rfl⟩ := h1 e he
  rfl
set_option maxHeartbeats 64000000
def cmpI (a b : Int) : Int := if a < b then -1 else if b < a then 1 else 0
theorem f51 (a : Int) : Impl Tryz.prog 51 [.one (.int .i64 a)] (.one (.one (.bool false))) := by
 refine impl_intro z51.f z51.b rfl z51.r z51.n z51.t z51.d (by simp) fun hs => ?_
 simp only [slotsOf]
 conv => arg 2; reduce
 refine wN ?_
 simp [go_sem]
theorem f29 (a b : Int) : Impl Tryz.prog 29 [.one (.int .i64 a), .one (.int .i64 b)] (.one (.one (.int .i64 (cmpI a b)))) := by
 refine impl_v ?_
 repeat' first | refine St.go ?_ | ((with_reducible refine cn ?_ ?_) <;> intro h <;> (try simp at h) <;> try omega) | (refine Ru.go ?_; intro K hK; simp [go_sem]; (try simp (disch := omega) only [wx, z_i]); (first | apply hK | ((first | ((try refine .inl ?_); refine ⟨_, by (try intro hc); (repeat' first | exact f51 _ | exact hc | refine And.intro ?_ ?_ | simp [go_sem]); first | done | omega, ?_⟩) | refine .inr (.inl ⟨_, by (try intro hc); (repeat' first | exact f51 _ | exact hc | refine And.intro ?_ ?_ | simp [go_sem]); first | done | omega, ?_⟩) | refine .inr (.inr ⟨_, by (try intro hc); (repeat' first | exact f51 _ | exact hc | refine And.intro ?_ ?_ | simp [go_sem]); first | done | omega, ?_⟩)); first | apply hK | (refine ⟨by simp [go_sem], ?_⟩; first | apply hK | refine ⟨by simp [go_sem], hK _ _ ?_⟩)) | refine ⟨.one (.one (.bool false)), by simp [go_sem], hK _ _ ?_⟩ | refine ⟨by first | omega | (simp [z_f, z_g]; first | done | omega), ?_⟩ | refine ⟨hK _ ?_, fun h => ?_⟩ | refine ⟨?_, ?_⟩); all_goals ((try apply hK); clear hK K))
 all_goals
  simp [go_sem]
  unfold cmpI
  repeat' split
  all_goals omega
def key (x : Inter) : List Int := [x.from_, x.to, x.label]
set_option maxHeartbeats 64000000
theorem bytes_eq (a b : ByteArray) : (a == b) = decide (a = b) := by
 obtain ⟨a⟩ := a
 obtain ⟨b⟩ := b
 show ByteArray.beq ⟨a⟩ ⟨b⟩ = _
 unfold ByteArray.beq
 simp
 rw [Bool.eq_iff_iff]
 simp
def isDigit (c : Int) : Bool := decide (48 <= c) && decide (c <= 57)
def isLetter (c : Int) : Bool := (decide (97 <= c) && decide (c <= 122)) || (decide (65 <= c) && decide (c <= 90))
def isInner (c : Int) : Bool := isLetter c || isDigit c || decide (c = 95)
theorem f152 (c : Int) : Impl Tryz.prog 152 [.one (.int .u8 c)] (.one (.one (.bool (isDigit c)))) := by
 refine impl_intro z152.f z152.b rfl z152.r z152.n z152.t z152.d (by simp) fun hs => ?_
 simp only [slotsOf]
 conv => arg 2; reduce
 refine wN ?_
 simp [go_sem, isDigit]
theorem f150 (c : Int) : Impl Tryz.prog 150 [.one (.int .u8 c)] (.one (.one (.bool (isDigit c)))) := by
 refine impl_intro z150.f z150.b rfl z150.r z150.n z150.t z150.d (by simp) fun hs => ?_
 simp only [slotsOf]
 conv => arg 2; reduce
 refine wN ?_
 simp [go_sem, isDigit]
theorem f137 (c : Int) : Impl Tryz.prog 137 [.one (.int .u8 c)] (.one (.one (.bool (isLetter c)))) := by
 refine impl_intro z137.f z137.b rfl z137.r z137.n z137.t z137.d (by simp) fun hs => ?_
 simp only [slotsOf]
 conv => arg 2; reduce
 refine wN ?_
 simp [go_sem, isLetter]
theorem f132 (c : Int) : Impl Tryz.prog 132 [.one (.int .u8 c)] (.one (.one (.bool (isLetter c)))) := by
 refine impl_intro z132.f z132.b rfl z132.r z132.n z132.t z132.d (by simp) fun hs => ?_
 simp only [slotsOf]
 conv => arg 2; reduce
 refine wN ?_
 simp [go_sem, isLetter]
theorem f138 (c : Int) : Impl Tryz.prog 138 [.one (.int .u8 c)] (.one (.one (.bool (isInner c)))) := by
 refine impl_intro z138.f z138.b rfl z138.r z138.n z138.t z138.d (by simp) fun hs => ?_
 simp only [slotsOf]
 conv => arg 2; reduce
 cases hl : isLetter c with
 | true =>
   refine wV hl (f137 c) ?_
   simp [go_sem, isInner, hl]
 | false =>
   refine wV hl (aN (f137 c) (f152 c)) ?_
   simp [go_sem, isInner, hl]
   rfl
theorem f133 (c : Int) : Impl Tryz.prog 133 [.one (.int .u8 c)] (.one (.one (.bool (isInner c)))) := by
 refine impl_intro z133.f z133.b rfl z133.r z133.n z133.t z133.d (by simp) fun hs => ?_
 simp only [slotsOf]
 conv => arg 2; reduce
 cases hl : isLetter c with
 | true =>
   refine wV hl (f132 c) ?_
   simp [go_sem, isInner, hl]
 | false =>
   refine wV hl (aN (f132 c) (f150 c)) ?_
   simp [go_sem, isInner, hl]
   rfl
set_option maxHeartbeats 64000000
def encS (x : ByteArray) : List DV := [.str x]
def strL (s : ByteArray) : List Int := s.data.toList.map fun b => (b.toNat : Int)
theorem strL_len (s : ByteArray) : (strL s).length = s.size := by simp [strL]
theorem strL_get {s : ByteArray} {k : Nat} (h : k < s.size) : ∃ b : UInt8, s[k]? = some b /\ (b.toNat : Int) = (strL s)[k]'(by rw [strL_len]; exact h) := by
 refine ⟨s[k], by simp [h], ?_⟩
 simp [strL, ByteArray.getElem_eq_getElem_data]
theorem strL_at {s : ByteArray} {k : Nat} (h : k < s.size) : ((s[k]).toNat : Int) = (strL s)[k]'(by rw [strL_len]; exact h) := by
 simp [strL, ByteArray.getElem_eq_getElem_data]
theorem str_empty (s : ByteArray) : (s == ⟨#[]⟩) = decide (s.size = 0) := by
 rw [bytes_eq]
 by_cases h : s = ⟨#[]⟩
 ·subst h; rfl
 ·simp only [h, decide_false]
  symm
  rw [decide_eq_false_iff_not]
  intro h0
  apply h
  obtain ⟨d⟩ := s
  congr 1
  exact Array.eq_empty_of_size_eq_zero h0
def kws : List ByteArray := [⟨#[97, 103, 97, 105, 110]⟩, ⟨#[97, 110, 100]⟩, ⟨#[97, 115]⟩, ⟨#[97, 116]⟩, ⟨#[99, 97, 108, 108]⟩, ⟨#[99, 104, 111, 105, 99, 101]⟩, ⟨#[101, 108, 115, 101]⟩, ⟨#[102, 114, 111, 109]⟩, ⟨#[105, 102]⟩, ⟨#[105, 110, 116]⟩, ⟨#[108, 101, 110]⟩, ⟨#[108, 111, 111, 112]⟩, ⟨#[109, 101, 115, 115, 97, 103, 101]⟩, ⟨#[111, 102]⟩, ⟨#[111, 102, 102, 101, 114]⟩, ⟨#[111, 110]⟩, ⟨#[111, 114]⟩, ⟨#[112, 97, 114]⟩, ⟨#[112, 108, 97, 121, 115]⟩, ⟨#[112, 114, 111, 116, 111, 99, 111, 108]⟩, ⟨#[115, 101, 114, 118, 105, 99, 101]⟩, ⟨#[116, 101, 120, 116]⟩, ⟨#[116, 105, 109, 101, 115]⟩, ⟨#[116, 111]⟩, ⟨#[118, 97, 114]⟩, ⟨#[119, 104, 101, 114, 101]⟩, ⟨#[119, 104, 105, 108, 101]⟩, ⟨#[119, 105, 116, 104, 105, 110]⟩]
def isName (s : ByteArray) : Bool := !decide (s.size = 0) && decide (s.size <= 16) && isLetter ((strL s)[0]?.getD 0) && (strL s).all isInner
def hasS (l : List ByteArray) (s : ByteArray) : Bool := l.any (· == s)
def isWord (s : ByteArray) : Bool := isName s && !hasS kws s
theorem isName_zero {s : ByteArray} (h : s.size = 0) : isName s = false := by
 simp [isName, h]
theorem isName_pos {s : ByteArray} (h : 0 < s.size) : isName s = (decide (s.size <= 16) && isLetter ((strL s)[0]'(by rw [strL_len]; exact h)) && (strL s).all isInner) := by
 have h' : 0 < (strL s).length := by rw [strL_len]; exact h
 have h0 : ¬ s.size = 0 := by omega
 simp only [isName, h0, decide_false, Bool.not_false, Bool.true_and, List.getElem?_eq_getElem h', Option.getD_some]
theorem f123 (s : ByteArray) : Impl Tryz.prog 123 [.one (.str s)] (.one (.one (.bool (isName s)))) := by
 refine impl_z Tryz.func123 z123 Tryz.ntmps123 (by simp) ?_
 simp only [c123, slotsOf]
 have he := str_empty s
 by_cases h0 : s.size = 0
 ·have h0' : isName s = false := isName_zero h0
  refine wX (aN he h0) ?_
  simp [go_sem, h0']
 ·have hpos : 0 < s.size := by omega
  obtain ⟨b0, hb0, hn0⟩ := strL_get hpos
  have hn := isName_pos hpos
  rw [<- hn0] at hn
  by_cases h16 : s.size <= 16
  ·have h16' : ¬ (16 : Int) < (s.size : Int) := by omega
   cases hl : isLetter (b0.toNat : Int) with
   | false =>
     refine wV (aN he <| aN h0 <| aN h16' <| aN hb0 hl) (fun {x0_} => f137 x0_) ?_
     simp [go_sem, hn, hl]
   | true =>
     refine wV (aN he <| aN h0 <| aN h16' <| aN hb0 hl) (fun {x0_} => f137 x0_) ?_
     refine z_k (fun n e => ∃ k : Nat, k + n = s.size /\ ((strL s).take k).all isInner = true /\ e = [(19, .sv (.one (.int .i64 k))), (18, .sv (.one (.int .i64 s.size))), (0, .sv (.one (.str s)))]) s.size _ ⟨0, by simp, by simp, rfl⟩ (by simp [go_sem]) ?_
     rintro n e ⟨k, hk, hall, rfl⟩
     by_cases hlt : k < s.size
     ·have hbn := strL_at hlt
      have hlt' : k < (strL s).length := by rw [strL_len]; exact hlt
      cases hi : isInner ((s[k]).toNat : Int) with
      | false =>
        refine wV (aN hlt hi) (fun {x0_} => f138 x0_) ?_
        have := all_no hlt' (by rw [<- hbn]; exact hi)
        simp [go_sem, hn, this]
      | true =>
        refine wV (aN hlt hi) (fun {x0_} => f138 x0_) ?_
        refine z_j (n - 1) _ (by omega) ⟨k + 1, by omega, ?_, rfl⟩ ?_
        ·rw [all_succ hlt', hall, <- hbn, hi]; rfl
        ·simp [go_sem]
     ·have htk : (strL s).take k = strL s := List.take_of_length_le (by rw [strL_len]; omega)
      rw [htk] at hall
      refine wX hlt ?_
      simp [go_sem, hn, hl, h16, hall]
  ·have h16' : (16 : Int) < (s.size : Int) := by omega
   refine wX (aN he <| aN h0 <| aN h16' hb0) ?_
   simp [go_sem, hn, h16]
set_option maxHeartbeats 64000000
theorem any_succ {α : Type} {p : α -> Bool} {l : List α} {k : Nat} (h : k < l.length) : (l.take (k + 1)).any p = ((l.take k).any p || p l[k]) := by
 rw [List.take_succ_eq_append_getElem h, List.any_append]
 simp
theorem any_yes {α : Type} {p : α -> Bool} {l : List α} {k : Nat} (h : k < l.length) (hb : p l[k] = true) : l.any p = true := by
 rw [List.any_eq_true]
 exact ⟨l[k], List.getElem_mem h, hb⟩
def firstB {α : Type} (p : α -> Bool) (l : List α) : Int := match l.findIdx? p with
 | some i => (i : Int)
 | none => -1
theorem firstB_at {α : Type} {p : α -> Bool} {l : List α} {k : Nat} (hk : k < l.length) (h0 : (l.take k).any p = false) (h1 : p l[k] = true) : firstB p l = k := by
 have : l.findIdx? p = some k := by
  rw [List.findIdx?_eq_some_iff_getElem]
  refine ⟨hk, h1, fun j hj => ?_⟩
  rw [List.any_eq_false] at h0
  have := h0 (l[j]'(by omega)) (List.mem_iff_getElem.2 ⟨j, by rw [List.length_take]; omega, by simp⟩)
  simpa using this
 simp [firstB, this]
theorem firstB_none {α : Type} {p : α -> Bool} {l : List α} (h : l.any p = false) : firstB p l = -1 := by
 have : l.findIdx? p = none := by
  rw [List.findIdx?_eq_none_iff]
  intro x hx
  rw [List.any_eq_false] at h
  simpa using h x hx
 simp [firstB, this]
theorem firstB_any {α : Type} (p : α -> Bool) (l : List α) : decide (0 <= firstB p l) = l.any p := by
 cases h : l.any p with
 | false => rw [firstB_none h]; rfl
 | true =>
   unfold firstB
   cases h2 : l.findIdx? p with
   | none =>
     rw [List.findIdx?_eq_none_iff] at h2
     rw [List.any_eq_true] at h
     obtain ⟨x, hx, hp⟩ := h
     rw [h2 x hx] at hp
     cases hp
   | some i => simp
theorem any_bytes (l : List ByteArray) (x : ByteArray) : l.any (fun y => x == y) = hasS l x := by
 unfold hasS
 congr 1
 funext y
 rw [bytes_eq, bytes_eq]
 by_cases h : x = y
 ·subst h; rfl
 ·rw [decide_eq_false h, decide_eq_false (fun e => h e.symm)]
theorem f124 (l : List ByteArray) (x : ByteArray) (hl : l.length <= 1000000) : Impl Tryz.prog 124 [.one (.sl (l.map encS)), .one (.str x)] (.one (.one (.int .i64 (firstB (fun y => x == y) l)))) := by
 refine impl_v ?_
 refine wN ?_
 refine z_k (fun n e => ∃ k : Nat, k + n = l.length /\ (l.take k).any (fun y => x == y) = false /\ e = [(8, .sv (.one (.int .i64 k))), (7, .sv (.one (.int .i64 l.length))), (1, .sv (.one (.str x))), (0, .sv (.one (.sl (l.map encS))))]) l.length _ ⟨0, by simp, by simp, rfl⟩ (by simp [go_sem]) ?_
 rintro n e ⟨k, hk, h0, rfl⟩
 by_cases hlt : k < l.length
 ·cases hx : (x == l[k]) with
  | true =>
    have hf := firstB_at (p := fun y => x == y) hlt h0 hx
    refine wX (aN hlt <| aN encS.eq_1 hx) ?_
    simp [go_sem, hf]
  | false =>
    refine wX (aN hlt <| aN encS.eq_1 hx) ?_
    refine z_j (n - 1) _ (by omega) ⟨k + 1, by omega, ?_, rfl⟩ ?_
    ·rw [any_succ hlt, h0, hx]; rfl
    ·simp [go_sem]
 ·have hkl : l.take k = l := List.take_of_length_le (by omega)
  rw [hkl] at h0
  have hf := firstB_none h0
  refine wX hlt ?_
  simp [go_sem, hf]
theorem f96 (l : List ByteArray) (x : ByteArray) (hl : l.length <= 1000000) : Impl Tryz.prog 96 [.one (.sl (l.map encS)), .one (.str x)] (.one (.one (.bool (hasS l x)))) := by
 refine impl_v ?_
 have hf := firstB_any (fun y => x == y) l
 rw [any_bytes] at hf
 refine wC (f124 l x hl) ?_
 simp [go_sem, hf]
theorem f113 (l : List ByteArray) (x : ByteArray) (hl : l.length <= 1000000) : Impl Tryz.prog 113 [.one (.sl (l.map encS)), .one (.str x)] (.one (.one (.bool (hasS l x)))) := by
 refine impl_v ?_
 refine wN ?_
 refine z_k (fun n e => ∃ k : Nat, k + n = l.length /\ (l.take k).any (fun y => y == x) = false /\ e = [(5, .sv (.one (.int .i64 k))), (1, .sv (.one (.str x))), (0, .sv (.one (.sl (l.map encS))))]) l.length _ ⟨0, by simp, by simp, rfl⟩ (by simp [go_sem]) ?_
 rintro n e ⟨k, hk, h0, rfl⟩
 by_cases hlt : k < l.length
 ·cases hx : (l[k] == x) with
  | true =>
    have hf : hasS l x = true := any_yes hlt hx
    refine wX (aN hlt <| aN encS.eq_1 hx) ?_
    simp [go_sem, hf]
  | false =>
    refine wX (aN hlt <| aN encS.eq_1 hx) ?_
    refine z_j (n - 1) _ (by omega) ⟨k + 1, by omega, ?_, rfl⟩ ?_
    ·rw [any_succ hlt, h0, hx]; rfl
    ·simp [go_sem]
 ·have hkl : l.take k = l := List.take_of_length_le (by omega)
  rw [hkl] at h0
  have hf : hasS l x = false := h0
  refine wX hlt ?_
  simp [go_sem, hf]
theorem f112 (s : ByteArray) : Impl Tryz.prog 112 [.one (.str s)] (.one (.one (.bool (isName s)))) := by
 refine impl_z Tryz.func112 z112 Tryz.ntmps112 (by simp) ?_
 simp only [c112, slotsOf]
 have he := str_empty s
 by_cases h0 : s.size = 0
 ·have h0' : isName s = false := isName_zero h0
  refine wX (aN he h0) ?_
  simp [go_sem, h0']
 ·have hpos : 0 < s.size := by omega
  obtain ⟨b0, hb0, hn0⟩ := strL_get hpos
  have hn := isName_pos hpos
  rw [<- hn0] at hn
  cases hl : isLetter (b0.toNat : Int) with
  | false =>
    refine wV (aN he <| aN h0 <| aN hb0 hl) (fun {x0_} => f132 x0_) ?_
    simp [go_sem, hn, hl]
  | true =>
    by_cases h16 : s.size <= 16
    ·have h16' : ¬ (16 : Int) < (s.size : Int) := by omega
     refine wV (aN he <| aN h0 <| aN h16' <| aN hb0 hl) (fun {x0_} => f132 x0_) ?_
     refine z_k (fun n e => ∃ k : Nat, k + n = s.size /\ ((strL s).take k).all isInner = true /\ e = [(3, .sv (.one (.int .i64 k))), (0, .sv (.one (.str s)))]) s.size _ ⟨0, by simp, by simp, rfl⟩ (by simp [go_sem]) ?_
     rintro n e ⟨k, hk, hall, rfl⟩
     by_cases hlt : k < s.size
     ·have hbn := strL_at hlt
      have hlt' : k < (strL s).length := by rw [strL_len]; exact hlt
      cases hi : isInner ((s[k]).toNat : Int) with
      | false =>
        refine wV (aN hlt hi) (fun {x0_} => f133 x0_) ?_
        have := all_no hlt' (by rw [<- hbn]; exact hi)
        simp [go_sem, hn, this]
      | true =>
        refine wV (aN hlt hi) (fun {x0_} => f133 x0_) ?_
        refine z_j (n - 1) _ (by omega) ⟨k + 1, by omega, ?_, rfl⟩ ?_
        ·rw [all_succ hlt', hall, <- hbn, hi]; rfl
        ·simp [go_sem]
     ·have htk : (strL s).take k = strL s := List.take_of_length_le (by rw [strL_len]; omega)
      rw [htk] at hall
      refine wX hlt ?_
      simp [go_sem, hn, hl, h16, hall]
    ·have h16' : (16 : Int) < (s.size : Int) := by omega
     refine wV (aN he <| aN h0 <| aN h16' <| aN hb0 hl) (fun {x0_} => f132 x0_) ?_
     simp [go_sem, hn, h16]
theorem f114 : Impl Tryz.prog 114 [] (.one (.one (.ow 1 (kws.map encS)))) := by
 refine impl_z Tryz.func114 z114 Tryz.ntmps114 (by simp) ?_
 simp only [c114, slotsOf]
 refine wN ?_
 simp [go_sem, kws, encS]
theorem kws_len : kws.length <= 1000000 := by decide
theorem f79 (s : ByteArray) : Impl Tryz.prog 79 [.one (.str s)] (.one (.one (.bool (isWord s)))) := by
 refine impl_v ?_
 cases hn : isName s with
 | true =>
   refine wV hn (aN (f112 s) <| aN @f114 (f113 kws s kws_len)) ?_
   simp [go_sem, isWord, hn]
 | false =>
   refine wV hn (f112 s) ?_
   simp [go_sem, isWord, hn]
theorem f134 (s : ByteArray) : Impl Tryz.prog 134 [.one (.str s)] (.one (.one (.bool (isWord s)))) := by
 refine impl_v ?_
 refine wC (f79 s) ?_
 simp [go_sem]
theorem f95 (s : ByteArray) : Impl Tryz.prog 95 [.one (.str s)] (.one (.one (.bool (isWord s)))) := by
 refine impl_z Tryz.func95 z95 Tryz.ntmps95 (by simp) ?_
 simp only [c95, slotsOf]
 have f96s := f96 kws s kws_len
 simp only [kws, List.map_cons, List.map_nil, encS] at f96s
 have hw : isWord s = (isName s && !hasS kws s) := rfl
 simp only [kws] at hw
 cases hn : isName s with
 | true =>
   refine wV hn (aN (f123 s) f96s) ?_
   simp [go_sem, hw, hn]
 | false =>
   refine wV hn (f123 s) ?_
   simp [go_sem, hw, hn]
end Go.Av
