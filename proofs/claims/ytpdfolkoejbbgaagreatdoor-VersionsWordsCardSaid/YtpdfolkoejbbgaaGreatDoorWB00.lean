/- Part of a proof. -/
import Derived.Test.YtpdfolkoejbbgaaGreatDoorWAvR
import Derived.Test.YtpdfolkoejbbgaaGreatDoorProg
import Derived.Test.YtpdfolkoejbbgaaGreatDoorWC0
import Derived.Test.YtpdfolkoejbbgaaGreatDoorWF4
import Derived.Lib.Strings
import Derived.Lib.Slices
import Derived.Lib.Walk
import Derived.Lib.Bytealg
set_option linter.unusedVariables false
set_option linter.unusedSimpArgs false
set_option maxHeartbeats 64000000
set_option maxRecDepth 8000
namespace Go.Av
open Go Go.Proofs
@[go_sem] theorem ty_3 : kindT Tryz.prog 3 = some false /\ sizeT Tryz.prog 3 = some 1 /\ bytesT Tryz.prog 3 = some 8 /\ elT Tryz.prog 3 = none /\ arrT Tryz.prog 3 = none /\ intT Tryz.prog 3 = some IntKind.i64 /\ zeroT Tryz.prog 3 = some [DV.int IntKind.i64 0] /\ placesT Tryz.prog 3 = none /\ zero1 Tryz.prog 3 = some (KV.ki IntKind.i64 0) /\ cmpT Tryz.prog 20 3 = some [(0, 0)] := by and_intros <;> kernel_rfl
@[go_sem] theorem ty_4 : kindT Tryz.prog 4 = some false /\ sizeT Tryz.prog 4 = some 1 /\ bytesT Tryz.prog 4 = some 1 /\ elT Tryz.prog 4 = none /\ arrT Tryz.prog 4 = none /\ boolT Tryz.prog 4 = true /\ zeroT Tryz.prog 4 = some [DV.bool false] /\ placesT Tryz.prog 4 = none /\ zero1 Tryz.prog 4 = some (KV.kb false) /\ cmpT Tryz.prog 20 4 = some [(0, 1)] := by and_intros <;> kernel_rfl
@[go_sem] theorem ty_5 : kindT Tryz.prog 5 = some false /\ sizeT Tryz.prog 5 = some 1 /\ bytesT Tryz.prog 5 = some 1 /\ elT Tryz.prog 5 = none /\ arrT Tryz.prog 5 = none /\ intT Tryz.prog 5 = some IntKind.u8 /\ zeroT Tryz.prog 5 = some [DV.int IntKind.u8 0] /\ placesT Tryz.prog 5 = none /\ zero1 Tryz.prog 5 = some (KV.ki IntKind.u8 0) /\ cmpT Tryz.prog 20 5 = some [(0, 0)] := by and_intros <;> kernel_rfl
@[go_sem] theorem ty_9 : kindT Tryz.prog 9 = some false /\ sizeT Tryz.prog 9 = some 1 /\ bytesT Tryz.prog 9 = some 16 /\ elT Tryz.prog 9 = none /\ arrT Tryz.prog 9 = none /\ strT Tryz.prog 9 = true /\ zeroT Tryz.prog 9 = some [DV.str { data := #[] }] /\ placesT Tryz.prog 9 = none /\ zero1 Tryz.prog 9 = some (KV.ks { data := #[] }) /\ cmpT Tryz.prog 20 9 = some [(0, 2)] := by and_intros <;> kernel_rfl
@[go_sem] theorem ty_21 : kindT Tryz.prog 21 = some false /\ sizeT Tryz.prog 21 = some 1 /\ bytesT Tryz.prog 21 = some 4 /\ elT Tryz.prog 21 = none /\ arrT Tryz.prog 21 = none /\ intT Tryz.prog 21 = some IntKind.i32 /\ zeroT Tryz.prog 21 = some [DV.int IntKind.i32 0] /\ placesT Tryz.prog 21 = none /\ zero1 Tryz.prog 21 = some (KV.ki IntKind.i32 0) /\ cmpT Tryz.prog 20 21 = some [(0, 0)] := by and_intros <;> kernel_rfl
@[go_sem] theorem ty_22 : kindT Tryz.prog 22 = some false /\ sizeT Tryz.prog 22 = some 1 /\ bytesT Tryz.prog 22 = some 24 /\ elT Tryz.prog 22 = some 9 /\ arrT Tryz.prog 22 = none /\ zeroT Tryz.prog 22 = some [DV.nil] /\ placesT Tryz.prog 22 = none := by and_intros <;> kernel_rfl
@[go_sem] theorem ty_23 : kindT Tryz.prog 23 = some false /\ sizeT Tryz.prog 23 = some 1 /\ bytesT Tryz.prog 23 = some 24 /\ elT Tryz.prog 23 = some 71 /\ arrT Tryz.prog 23 = none /\ zeroT Tryz.prog 23 = some [DV.nil] /\ placesT Tryz.prog 23 = none := by and_intros <;> kernel_rfl
@[go_sem] theorem ty_24 : kindT Tryz.prog 24 = some false /\ sizeT Tryz.prog 24 = some 1 /\ bytesT Tryz.prog 24 = some 24 /\ elT Tryz.prog 24 = some 65 /\ arrT Tryz.prog 24 = none /\ zeroT Tryz.prog 24 = some [DV.nil] /\ placesT Tryz.prog 24 = none := by and_intros <;> kernel_rfl
@[go_sem] theorem ty_25 : kindT Tryz.prog 25 = some false /\ sizeT Tryz.prog 25 = some 1 /\ bytesT Tryz.prog 25 = some 24 /\ elT Tryz.prog 25 = some 118 /\ arrT Tryz.prog 25 = none /\ zeroT Tryz.prog 25 = some [DV.nil] /\ placesT Tryz.prog 25 = none := by and_intros <;> kernel_rfl
@[go_sem] theorem ty_27 : kindT Tryz.prog 27 = some true /\ sizeT Tryz.prog 27 = some 8 /\ bytesT Tryz.prog 27 = some 136 /\ elT Tryz.prog 27 = none /\ arrT Tryz.prog 27 = none /\ zeroT Tryz.prog 27 = some [DV.str { data := #[] }, DV.nil, DV.nil, DV.int IntKind.i64 0, DV.int IntKind.i64 0, DV.int IntKind.i64 0, DV.nil, DV.nil] /\ placesT Tryz.prog 27 = some [(0, 1), (1, 1), (2, 1), (3, 1), (4, 1), (5, 1), (6, 1), (7, 1)] /\ fldT Tryz.prog 27 0 = some (0, 9) /\ fldT Tryz.prog 27 1 = some (1, 22) /\ fldT Tryz.prog 27 2 = some (2, 23) /\ fldT Tryz.prog 27 3 = some (3, 3) /\ fldT Tryz.prog 27 4 = some (4, 3) /\ fldT Tryz.prog 27 5 = some (5, 3) /\ fldT Tryz.prog 27 6 = some (6, 24) /\ fldT Tryz.prog 27 7 = some (7, 25) := by and_intros <;> kernel_rfl
@[go_sem] theorem ty_28 : kindT Tryz.prog 28 = some false /\ sizeT Tryz.prog 28 = some 1 /\ bytesT Tryz.prog 28 = some 24 /\ elT Tryz.prog 28 = some 52 /\ arrT Tryz.prog 28 = none /\ zeroT Tryz.prog 28 = some [DV.nil] /\ placesT Tryz.prog 28 = none := by and_intros <;> kernel_rfl
@[go_sem] theorem ty_34 : kindT Tryz.prog 34 = some false /\ sizeT Tryz.prog 34 = some 1 /\ bytesT Tryz.prog 34 = some 24 /\ elT Tryz.prog 34 = some 88 /\ arrT Tryz.prog 34 = none /\ zeroT Tryz.prog 34 = some [DV.nil] /\ placesT Tryz.prog 34 = none := by and_intros <;> kernel_rfl
@[go_sem] theorem ty_37 : kindT Tryz.prog 37 = some false /\ sizeT Tryz.prog 37 = some 1 /\ bytesT Tryz.prog 37 = some 24 /\ elT Tryz.prog 37 = some 3 /\ arrT Tryz.prog 37 = none /\ zeroT Tryz.prog 37 = some [DV.nil] /\ placesT Tryz.prog 37 = none := by and_intros <;> kernel_rfl
@[go_sem] theorem ty_38 : kindT Tryz.prog 38 = some false /\ sizeT Tryz.prog 38 = some 1 /\ bytesT Tryz.prog 38 = some 24 /\ elT Tryz.prog 38 = some 61 /\ arrT Tryz.prog 38 = none /\ zeroT Tryz.prog 38 = some [DV.nil] /\ placesT Tryz.prog 38 = none := by and_intros <;> kernel_rfl
@[go_sem] theorem ty_39 : kindT Tryz.prog 39 = some false /\ sizeT Tryz.prog 39 = some 1 /\ bytesT Tryz.prog 39 = some 24 /\ elT Tryz.prog 39 = some 4 /\ arrT Tryz.prog 39 = none /\ zeroT Tryz.prog 39 = some [DV.nil] /\ placesT Tryz.prog 39 = none := by and_intros <;> kernel_rfl
@[go_sem] theorem ty_42 : kindT Tryz.prog 42 = some false /\ sizeT Tryz.prog 42 = some 1 /\ bytesT Tryz.prog 42 = some 8 /\ elT Tryz.prog 42 = none /\ arrT Tryz.prog 42 = none /\ intT Tryz.prog 42 = some IntKind.i64 /\ zeroT Tryz.prog 42 = some [DV.int IntKind.i64 0] /\ placesT Tryz.prog 42 = none /\ zero1 Tryz.prog 42 = some (KV.ki IntKind.i64 0) /\ cmpT Tryz.prog 20 42 = some [(0, 0)] := by and_intros <;> kernel_rfl
@[go_sem] theorem ty_52 : kindT Tryz.prog 52 = some true /\ sizeT Tryz.prog 52 = some 3 /\ bytesT Tryz.prog 52 = some 24 /\ elT Tryz.prog 52 = none /\ arrT Tryz.prog 52 = none /\ zeroT Tryz.prog 52 = some [DV.int IntKind.i64 0, DV.int IntKind.i64 0, DV.int IntKind.i64 0] /\ placesT Tryz.prog 52 = some [(0, 1), (1, 1), (2, 1)] /\ cmpT Tryz.prog 20 52 = some [(0, 0), (1, 0), (2, 0)] /\ fldT Tryz.prog 52 0 = some (0, 3) /\ fldT Tryz.prog 52 1 = some (1, 3) /\ fldT Tryz.prog 52 2 = some (2, 3) := by and_intros <;> kernel_rfl
@[go_sem] theorem ty_61 : kindT Tryz.prog 61 = some true /\ sizeT Tryz.prog 61 = some 2 /\ bytesT Tryz.prog 61 = some 16 /\ elT Tryz.prog 61 = none /\ arrT Tryz.prog 61 = some (2, 3) /\ zeroT Tryz.prog 61 = some [DV.int IntKind.i64 0, DV.int IntKind.i64 0] /\ placesT Tryz.prog 61 = none /\ cmpT Tryz.prog 20 61 = some [(0, 0), (1, 0)] := by and_intros <;> kernel_rfl
@[go_sem] theorem ty_65 : kindT Tryz.prog 65 = some true /\ sizeT Tryz.prog 65 = some 6 /\ bytesT Tryz.prog 65 = some 48 /\ elT Tryz.prog 65 = none /\ arrT Tryz.prog 65 = none /\ zeroT Tryz.prog 65 = some [DV.int IntKind.i64 0, DV.int IntKind.i64 0, DV.int IntKind.i64 0, DV.int IntKind.i64 0, DV.int IntKind.i64 0, DV.bool false] /\ placesT Tryz.prog 65 = some [(0, 1), (1, 3), (4, 1), (5, 1)] /\ cmpT Tryz.prog 20 65 = some [(0, 0), (1, 0), (2, 0), (3, 0), (4, 0), (5, 1)] /\ fldT Tryz.prog 65 0 = some (0, 3) /\ fldT Tryz.prog 65 1 = some (1, 52) /\ fldT Tryz.prog 65 2 = some (4, 3) /\ fldT Tryz.prog 65 3 = some (5, 4) := by and_intros <;> kernel_rfl
@[go_sem] theorem ty_66 : kindT Tryz.prog 66 = some false /\ sizeT Tryz.prog 66 = some 1 /\ bytesT Tryz.prog 66 = some 24 /\ elT Tryz.prog 66 = some 123 /\ arrT Tryz.prog 66 = none /\ zeroT Tryz.prog 66 = some [DV.nil] /\ placesT Tryz.prog 66 = none := by and_intros <;> kernel_rfl
@[go_sem] theorem ty_67 : kindT Tryz.prog 67 = some false /\ sizeT Tryz.prog 67 = some 1 /\ bytesT Tryz.prog 67 = some 24 /\ elT Tryz.prog 67 = some 126 /\ arrT Tryz.prog 67 = none /\ zeroT Tryz.prog 67 = some [DV.nil] /\ placesT Tryz.prog 67 = none := by and_intros <;> kernel_rfl
@[go_sem] theorem ty_69 : kindT Tryz.prog 69 = some true /\ sizeT Tryz.prog 69 = some 2 /\ bytesT Tryz.prog 69 = some 48 /\ elT Tryz.prog 69 = none /\ arrT Tryz.prog 69 = none /\ zeroT Tryz.prog 69 = some [DV.nil, DV.nil] /\ placesT Tryz.prog 69 = some [(0, 1), (1, 1)] /\ fldT Tryz.prog 69 0 = some (0, 67) /\ fldT Tryz.prog 69 1 = some (1, 38) := by and_intros <;> kernel_rfl
@[go_sem] theorem ty_71 : kindT Tryz.prog 71 = some true /\ sizeT Tryz.prog 71 = some 5 /\ bytesT Tryz.prog 71 = some 96 /\ elT Tryz.prog 71 = none /\ arrT Tryz.prog 71 = none /\ zeroT Tryz.prog 71 = some [DV.str { data := #[] }, DV.nil, DV.int IntKind.i64 0, DV.nil, DV.nil] /\ placesT Tryz.prog 71 = some [(0, 1), (1, 1), (2, 1), (3, 2)] /\ fldT Tryz.prog 71 0 = some (0, 9) /\ fldT Tryz.prog 71 1 = some (1, 66) /\ fldT Tryz.prog 71 2 = some (2, 3) /\ fldT Tryz.prog 71 3 = some (3, 69) := by and_intros <;> kernel_rfl
@[go_sem] theorem ty_73 : kindT Tryz.prog 73 = some false /\ sizeT Tryz.prog 73 = some 1 /\ bytesT Tryz.prog 73 = some 24 /\ elT Tryz.prog 73 = some 28 /\ arrT Tryz.prog 73 = none /\ zeroT Tryz.prog 73 = some [DV.nil] /\ placesT Tryz.prog 73 = none := by and_intros <;> kernel_rfl
@[go_sem] theorem ty_81 : kindT Tryz.prog 81 = some false /\ sizeT Tryz.prog 81 = some 1 /\ bytesT Tryz.prog 81 = some 24 /\ elT Tryz.prog 81 = some 34 /\ arrT Tryz.prog 81 = none /\ zeroT Tryz.prog 81 = some [DV.nil] /\ placesT Tryz.prog 81 = none := by and_intros <;> kernel_rfl
@[go_sem] theorem ty_88 : kindT Tryz.prog 88 = some true /\ sizeT Tryz.prog 88 = some 5 /\ bytesT Tryz.prog 88 = some 56 /\ elT Tryz.prog 88 = none /\ arrT Tryz.prog 88 = none /\ zeroT Tryz.prog 88 = some [DV.int IntKind.i64 0, DV.bool false, DV.int IntKind.i64 0, DV.int IntKind.i64 0, DV.nil] /\ placesT Tryz.prog 88 = some [(0, 1), (1, 1), (2, 1), (3, 1), (4, 1)] /\ fldT Tryz.prog 88 0 = some (0, 3) /\ fldT Tryz.prog 88 1 = some (1, 4) /\ fldT Tryz.prog 88 2 = some (2, 3) /\ fldT Tryz.prog 88 3 = some (3, 3) /\ fldT Tryz.prog 88 4 = some (4, 86) := by and_intros <;> kernel_rfl
@[go_sem] theorem ty_118 : kindT Tryz.prog 118 = some true /\ sizeT Tryz.prog 118 = some 3 /\ bytesT Tryz.prog 118 = some 24 /\ elT Tryz.prog 118 = none /\ arrT Tryz.prog 118 = none /\ zeroT Tryz.prog 118 = some [DV.int IntKind.i64 0, DV.int IntKind.i64 0, DV.int IntKind.i64 0] /\ placesT Tryz.prog 118 = some [(0, 1), (1, 1), (2, 1)] /\ cmpT Tryz.prog 20 118 = some [(0, 0), (1, 0), (2, 0)] /\ fldT Tryz.prog 118 0 = some (0, 3) /\ fldT Tryz.prog 118 1 = some (1, 3) /\ fldT Tryz.prog 118 2 = some (2, 3) := by and_intros <;> kernel_rfl
@[go_sem] theorem ty_121 : kindT Tryz.prog 121 = some true /\ sizeT Tryz.prog 121 = some 3 /\ bytesT Tryz.prog 121 = some 24 /\ elT Tryz.prog 121 = none /\ arrT Tryz.prog 121 = none /\ zeroT Tryz.prog 121 = some [DV.int IntKind.i64 0, DV.int IntKind.i64 0, DV.int IntKind.i64 0] /\ placesT Tryz.prog 121 = some [(0, 1), (1, 1), (2, 1)] /\ cmpT Tryz.prog 20 121 = some [(0, 0), (1, 0), (2, 0)] /\ fldT Tryz.prog 121 0 = some (0, 3) /\ fldT Tryz.prog 121 1 = some (1, 3) /\ fldT Tryz.prog 121 2 = some (2, 3) := by and_intros <;> kernel_rfl
@[go_sem] theorem ty_123 : kindT Tryz.prog 123 = some true /\ sizeT Tryz.prog 123 = some 4 /\ bytesT Tryz.prog 123 = some 40 /\ elT Tryz.prog 123 = none /\ arrT Tryz.prog 123 = none /\ zeroT Tryz.prog 123 = some [DV.str { data := #[] }, DV.int IntKind.i64 0, DV.int IntKind.i64 0, DV.int IntKind.i64 0] /\ placesT Tryz.prog 123 = some [(0, 1), (1, 3)] /\ cmpT Tryz.prog 20 123 = some [(0, 2), (1, 0), (2, 0), (3, 0)] /\ fldT Tryz.prog 123 0 = some (0, 9) /\ fldT Tryz.prog 123 1 = some (1, 121) := by and_intros <;> kernel_rfl
@[go_sem] theorem ty_126 : kindT Tryz.prog 126 = some true /\ sizeT Tryz.prog 126 = some 3 /\ bytesT Tryz.prog 126 = some 24 /\ elT Tryz.prog 126 = none /\ arrT Tryz.prog 126 = none /\ zeroT Tryz.prog 126 = some [DV.int IntKind.i64 0, DV.int IntKind.i64 0, DV.int IntKind.i64 0] /\ placesT Tryz.prog 126 = some [(0, 1), (1, 1), (2, 1)] /\ cmpT Tryz.prog 20 126 = some [(0, 0), (1, 0), (2, 0)] /\ fldT Tryz.prog 126 0 = some (0, 3) /\ fldT Tryz.prog 126 1 = some (1, 3) /\ fldT Tryz.prog 126 2 = some (2, 3) := by and_intros <;> kernel_rfl
@[go_sem] theorem ty_152 : kindT Tryz.prog 152 = some true /\ sizeT Tryz.prog 152 = some 3 /\ bytesT Tryz.prog 152 = some 24 /\ elT Tryz.prog 152 = none /\ arrT Tryz.prog 152 = some (3, 3) /\ zeroT Tryz.prog 152 = some [DV.int IntKind.i64 0, DV.int IntKind.i64 0, DV.int IntKind.i64 0] /\ placesT Tryz.prog 152 = none /\ cmpT Tryz.prog 20 152 = some [(0, 0), (1, 0), (2, 0)] := by and_intros <;> kernel_rfl
@[go_sem] theorem ty_162 : kindT Tryz.prog 162 = some true /\ sizeT Tryz.prog 162 = some 28 /\ bytesT Tryz.prog 162 = some 448 /\ elT Tryz.prog 162 = none /\ arrT Tryz.prog 162 = some (28, 9) /\ zeroT Tryz.prog 162 = some [DV.str { data := #[] }, DV.str { data := #[] }, DV.str { data := #[] }, DV.str { data := #[] }, DV.str { data := #[] }, DV.str { data := #[] }, DV.str { data := #[] }, DV.str { data := #[] }, DV.str { data := #[] }, DV.str { data := #[] }, DV.str { data := #[] }, DV.str { data := #[] }, DV.str { data := #[] }, DV.str { data := #[] }, DV.str { data := #[] }, DV.str { data := #[] }, DV.str { data := #[] }, DV.str { data := #[] }, DV.str { data := #[] }, DV.str { data := #[] }, DV.str { data := #[] }, DV.str { data := #[] }, DV.str { data := #[] }, DV.str { data := #[] }, DV.str { data := #[] }, DV.str { data := #[] }, DV.str { data := #[] }, DV.str { data := #[] }] /\ placesT Tryz.prog 162 = none /\ cmpT Tryz.prog 20 162 = some [(0, 2), (1, 2), (2, 2), (3, 2), (4, 2), (5, 2), (6, 2), (7, 2), (8, 2), (9, 2), (10, 2), (11, 2), (12, 2), (13, 2), (14, 2), (15, 2), (16, 2), (17, 2), (18, 2), (19, 2), (20, 2), (21, 2), (22, 2), (23, 2), (24, 2), (25, 2), (26, 2), (27, 2)] := by and_intros <;> kernel_rfl
@[go_sem] theorem ty_164 : kindT Tryz.prog 164 = some false /\ sizeT Tryz.prog 164 = some 1 /\ bytesT Tryz.prog 164 = some 8 /\ elT Tryz.prog 164 = none /\ arrT Tryz.prog 164 = none /\ intT Tryz.prog 164 = some IntKind.u64 /\ zeroT Tryz.prog 164 = some [DV.int IntKind.u64 0] /\ placesT Tryz.prog 164 = none /\ zero1 Tryz.prog 164 = some (KV.ki IntKind.u64 0) /\ cmpT Tryz.prog 20 164 = some [(0, 0)] := by and_intros <;> kernel_rfl
@[go_sem] theorem ty_174 : kindT Tryz.prog 174 = some false /\ sizeT Tryz.prog 174 = some 1 /\ bytesT Tryz.prog 174 = some 4 /\ elT Tryz.prog 174 = none /\ arrT Tryz.prog 174 = none /\ intT Tryz.prog 174 = some IntKind.u32 /\ zeroT Tryz.prog 174 = some [DV.int IntKind.u32 0] /\ placesT Tryz.prog 174 = none /\ zero1 Tryz.prog 174 = some (KV.ki IntKind.u32 0) /\ cmpT Tryz.prog 20 174 = some [(0, 0)] := by and_intros <;> kernel_rfl
@[go_sem] theorem ty_177 : kindT Tryz.prog 177 = some false /\ sizeT Tryz.prog 177 = some 1 /\ bytesT Tryz.prog 177 = some 8 /\ elT Tryz.prog 177 = none /\ arrT Tryz.prog 177 = none /\ intT Tryz.prog 177 = some IntKind.u64 /\ zeroT Tryz.prog 177 = some [DV.int IntKind.u64 0] /\ placesT Tryz.prog 177 = none /\ zero1 Tryz.prog 177 = some (KV.ki IntKind.u64 0) /\ cmpT Tryz.prog 20 177 = some [(0, 0)] := by and_intros <;> kernel_rfl
end Go.Av
namespace Go.Av
open Go Go.RowKit Go.Proofs
structure Inter where
 from_ : Int
 to : Int
 label : Int
 deriving DecidableEq
def encI (x : Inter) : List DV := [.int .i64 x.from_, .int .i64 x.to, .int .i64 x.label]
structure Ev where
 role : Int
 send : Bool
 peer : Int
 label : Int
 vals : Option (List (List DV))
def valsDV : Option (List (List DV)) -> DV
 | none => .nil
 | some els => .sl els
@[go_sem ↓ high] theorem flat_vals (o : Option (List (List DV))) : (valsDV o).flat = true := by cases o <;> rfl
@[go_sem ↓ high] theorem frz_vals (o : Option (List (List DV))) : (valsDV o).frz = valsDV o := by cases o <;> rfl
def encE (x : Ev) : List DV := [.int .i64 x.role, .bool x.send, .int .i64 x.peer, .int .i64 x.label, valsDV x.vals]
def encH (x : List Ev) : List DV := [.sl (x.map encE)]
def encN (x : Int) : List DV := [.int .i64 x]
@[go_sem ↓ high] theorem frz_encI (x : Inter) : frzL (encI x) = encI x := by simp [encI, frzL, DV.frz]
@[go_sem ↓ high] theorem frz_encE (x : Ev) : frzL (encE x) = encE x := by simp [encE, frzL, DV.frz, frz_vals]
@[go_sem ↓ high] theorem frz_encN (x : Int) : frzL (encN x) = encN x := by simp [encN, frzL, DV.frz]
@[go_sem ↓ high] theorem frz_encH (x : List Ev) : frzL (encH x) = encH x := by simp [encH, frzL, DV.frz]
theorem all_succ {α : Type} {p : α -> Bool} {l : List α} {k : Nat} (h : k < l.length) : (l.take (k + 1)).all p = ((l.take k).all p && p l[k]) := by
 rw [List.take_succ_eq_append_getElem h, List.all_append]
 simp
theorem all_no {α : Type} {p : α -> Bool} {l : List α} {k : Nat} (h : k < l.length) (hb : p l[k] = false) : l.all p = false := by
 rw [List.all_eq_false]
 exact ⟨_, List.getElem_mem h, by simp [hb]⟩
@[go_sem] theorem clo_encI (l : List Inter) : clo (l.map encI) ↔ True := by
 simp only [iff_true]
 intro e he d hd
 obtain ⟨x, _, rfl⟩ := List.mem_map.1 he
 simp only [encI, List.mem_cons, List.not_mem_nil, or_false] at hd
 rcases hd with rfl | rfl | rfl <;> exact .int _ _
@[go_sem] theorem clo_encN (l : List Int) : clo (l.map encN) ↔ True := by
 simp only [iff_true]
 intro e he d hd
 obtain ⟨x, _, rfl⟩ := List.mem_map.1 he
 simp only [encN, List.mem_cons, List.not_mem_nil, or_false] at hd
 subst hd
 exact .int _ _
theorem bytes_eq (a b : ByteArray) : (a == b) = decide (a = b) := by
 obtain ⟨a⟩ := a
 obtain ⟨b⟩ := b
 show ByteArray.beq ⟨a⟩ ⟨b⟩ = _
 unfold ByteArray.beq
 simp
 rw [Bool.eq_iff_iff]
 simp
def isDigit (c : Int) : Bool := decide (48 <= c) && decide (c <= 57)
def isLetter (c : Int) : Bool := (decide (97 <= c) && decide (c <= 122)) || (decide (65 <= c) && decide (c <= 90))
def isInner (c : Int) : Bool := isLetter c || isDigit c || decide (c = 95)
theorem f146 (c : Int) : Impl Tryz.prog 146 [.one (.int .u8 c)] (.one (.one (.bool (isDigit c)))) := by
 refine impl_intro Tryz.func146 z146.b rfl z146.r z146.n Tryz.ntmps146 z146.d (by simp) fun hs => ?_
 simp only [slotsOf]
 conv => arg 2; reduce
 repeat' first | refine St.go ?_ | (refine Ru.go ?_; intro K hK; simp [go_sem]; (first | apply hK | refine ⟨ob, ?_⟩ | refine ⟨hK _ ?_, fun h => ?_⟩ | refine ⟨?_, ?_⟩); all_goals ((try apply hK); clear hK K))
 simp [go_sem, isDigit]
theorem f131 (c : Int) : Impl Tryz.prog 131 [.one (.int .u8 c)] (.one (.one (.bool (isLetter c)))) := by
 refine impl_intro Tryz.func131 z131.b rfl z131.r z131.n Tryz.ntmps131 z131.d (by simp) fun hs => ?_
 simp only [slotsOf]
 conv => arg 2; reduce
 repeat' first | refine St.go ?_ | (refine Ru.go ?_; intro K hK; simp [go_sem]; (first | apply hK | refine ⟨ob, ?_⟩ | refine ⟨hK _ ?_, fun h => ?_⟩ | refine ⟨?_, ?_⟩); all_goals ((try apply hK); clear hK K))
 simp [go_sem, isLetter]
theorem f132 (c : Int) : Impl Tryz.prog 132 [.one (.int .u8 c)] (.one (.one (.bool (isInner c)))) := by
 refine impl_intro Tryz.func132 z132.b rfl z132.r z132.n Tryz.ntmps132 z132.d (by simp) fun hs => ?_
 simp only [slotsOf]
 conv => arg 2; reduce
 cases hl : isLetter c with
 | true =>
   repeat' first | refine St.go ?_ | (refine Ru.go ?_; intro K hK; simp [go_sem, hl]; (first | apply hK | ((try refine .inl ?_); refine ⟨_, by (try intro hc); (repeat' first | exact f131 c | exact hc | refine And.intro ?_ ?_ | simp [go_sem, hl]); first | done | omega, ?_⟩; first | apply hK | (refine ⟨by simp [go_sem, hl], ?_⟩; apply hK)) | refine ⟨.one (.one (.bool false)), by simp [go_sem, hl], hK _ _ ?_⟩ | refine ⟨ob, ?_⟩ | refine ⟨hK _ ?_, fun h => ?_⟩ | refine ⟨?_, ?_⟩); all_goals ((try apply hK); clear hK K))
   simp [go_sem, isInner, hl]
 | false =>
   repeat' first | refine St.go ?_ | (refine Ru.go ?_; intro K hK; simp [go_sem, hl]; (first | apply hK | ((try refine .inl ?_); refine ⟨_, by (try intro hc); (repeat' first | exact f131 c | exact f146 c | exact hc | refine And.intro ?_ ?_ | simp [go_sem, hl]); first | done | omega, ?_⟩; first | apply hK | (refine ⟨by simp [go_sem, hl], ?_⟩; apply hK)) | refine ⟨.one (.one (.bool false)), by simp [go_sem, hl], hK _ _ ?_⟩ | refine ⟨ob, ?_⟩ | refine ⟨hK _ ?_, fun h => ?_⟩ | refine ⟨?_, ?_⟩); all_goals ((try apply hK); clear hK K))
   simp [go_sem, isInner, hl]
   rfl
def encS (x : ByteArray) : List DV := [.str x]
def strL (s : ByteArray) : List Int := s.data.toList.map fun b => (b.toNat : Int)
theorem strL_len (s : ByteArray) : (strL s).length = s.size := by simp [strL]
theorem strL_get {s : ByteArray} {k : Nat} (h : k < s.size) : ∃ b : UInt8, s[k]? = some b /\ (b.toNat : Int) = (strL s)[k]'(by rw [strL_len]; exact h) := by
 refine ⟨s[k], by simp [h], ?_⟩
 simp [strL, ByteArray.getElem_eq_getElem_data]
theorem strL_at {s : ByteArray} {k : Nat} (h : k < s.size) : ((s[k]).toNat : Int) = (strL s)[k]'(by rw [strL_len]; exact h) := by
 simp [strL, ByteArray.getElem_eq_getElem_data]
theorem str_empty (s : ByteArray) : (s == ⟨#[]⟩) = decide (s.size = 0) := by
 rw [bytes_eq]
 by_cases h : s = ⟨#[]⟩
 ·subst h; rfl
 ·simp only [h, decide_false]
  symm
  rw [decide_eq_false_iff_not]
  intro h0
  apply h
  obtain ⟨d⟩ := s
  congr 1
  exact Array.eq_empty_of_size_eq_zero h0
def kws : List ByteArray := [⟨#[97, 103, 97, 105, 110]⟩, ⟨#[97, 110, 100]⟩, ⟨#[97, 115]⟩, ⟨#[97, 116]⟩, ⟨#[99, 97, 108, 108]⟩, ⟨#[99, 104, 111, 105, 99, 101]⟩, ⟨#[101, 108, 115, 101]⟩, ⟨#[102, 114, 111, 109]⟩, ⟨#[105, 102]⟩, ⟨#[105, 110, 116]⟩, ⟨#[108, 101, 110]⟩, ⟨#[108, 111, 111, 112]⟩, ⟨#[109, 101, 115, 115, 97, 103, 101]⟩, ⟨#[111, 102]⟩, ⟨#[111, 102, 102, 101, 114]⟩, ⟨#[111, 110]⟩, ⟨#[111, 114]⟩, ⟨#[112, 97, 114]⟩, ⟨#[112, 108, 97, 121, 115]⟩, ⟨#[112, 114, 111, 116, 111, 99, 111, 108]⟩, ⟨#[115, 101, 114, 118, 105, 99, 101]⟩, ⟨#[116, 101, 120, 116]⟩, ⟨#[116, 105, 109, 101, 115]⟩, ⟨#[116, 111]⟩, ⟨#[118, 97, 114]⟩, ⟨#[119, 104, 101, 114, 101]⟩, ⟨#[119, 104, 105, 108, 101]⟩, ⟨#[119, 105, 116, 104, 105, 110]⟩]
def isName (s : ByteArray) : Bool := !decide (s.size = 0) && decide (s.size <= 16) && isLetter ((strL s)[0]?.getD 0) && (strL s).all isInner
def hasS (l : List ByteArray) (s : ByteArray) : Bool := l.any (· == s)
def isWord (s : ByteArray) : Bool := isName s && !hasS kws s
theorem isName_zero {s : ByteArray} (h : s.size = 0) : isName s = false := by
 simp [isName, h]
theorem isName_pos {s : ByteArray} (h : 0 < s.size) : isName s = (decide (s.size <= 16) && isLetter ((strL s)[0]'(by rw [strL_len]; exact h)) && (strL s).all isInner) := by
 have h' : 0 < (strL s).length := by rw [strL_len]; exact h
 have h0 : ¬ s.size = 0 := by omega
 simp only [isName, h0, decide_false, Bool.not_false, Bool.true_and, List.getElem?_eq_getElem h', Option.getD_some]
theorem f121 (s : ByteArray) : Impl Tryz.prog 121 [.one (.str s)] (.one (.one (.bool (isName s)))) := by
 refine impl_z Tryz.func121 z121 Tryz.ntmps121 (by simp) ?_
 simp only [c121, slotsOf]
 have he := str_empty s
 by_cases h0 : s.size = 0
 ·have h0' : isName s = false := isName_zero h0
  repeat' first | refine St.go ?_ | ((with_reducible refine cn ?_ ?_) <;> intro h <;> (try simp [he, h0] at h) <;> try omega) | (refine Ru.go ?_; intro K hK; simp [go_sem, he, h0]; (try simp (disch := omega) only [wx, z_i]); (first | apply hK | refine ⟨ob, ?_⟩ | refine ⟨hK _ ?_, fun h => ?_⟩ | refine ⟨?_, ?_⟩); all_goals ((try apply hK); clear hK K))
  simp [go_sem, h0']
 ·have hpos : 0 < s.size := by omega
  obtain ⟨b0, hb0, hn0⟩ := strL_get hpos
  have hn := isName_pos hpos
  rw [<- hn0] at hn
  by_cases h16 : s.size <= 16
  ·have h16' : ¬ (16 : Int) < (s.size : Int) := by omega
   cases hl : isLetter (b0.toNat : Int) with
   | false =>
     have q_ := aN he <| aN h0 <| aN h16' <| aN hb0 <| hl
     repeat' first | refine St.go ?_ | ((with_reducible refine cn ?_ ?_) <;> intro h <;> (try simp [q_] at h) <;> try omega) | (refine Ru.go ?_; intro K hK; simp [go_sem, q_]; (try simp (disch := omega) only [wx, z_i]); (first | apply hK | ((try refine .inl ?_); refine ⟨_, by (try intro hc); (repeat' first | exact f131 _ | exact hc | refine And.intro ?_ ?_ | simp [go_sem, q_]); first | done | omega, ?_⟩; first | apply hK | (refine ⟨by simp [go_sem, q_], ?_⟩; apply hK)) | refine ⟨.one (.one (.bool false)), by simp [go_sem, q_], hK _ _ ?_⟩ | refine ⟨ob, ?_⟩ | refine ⟨hK _ ?_, fun h => ?_⟩ | refine ⟨?_, ?_⟩); all_goals ((try apply hK); clear hK K))
     all_goals try clear q_
     simp [go_sem, hn, hl]
   | true =>
     have q_ := aN he <| aN h0 <| aN h16' <| aN hb0 <| hl
     repeat' first | refine St.go ?_ | ((with_reducible refine cn ?_ ?_) <;> intro h <;> (try simp [q_] at h) <;> try omega) | (refine Ru.go ?_; intro K hK; simp [go_sem, q_]; (try simp (disch := omega) only [wx, z_i]); (first | apply hK | ((try refine .inl ?_); refine ⟨_, by (try intro hc); (repeat' first | exact f131 _ | exact hc | refine And.intro ?_ ?_ | simp [go_sem, q_]); first | done | omega, ?_⟩; first | apply hK | (refine ⟨by simp [go_sem, q_], ?_⟩; apply hK)) | refine ⟨.one (.one (.bool false)), by simp [go_sem, q_], hK _ _ ?_⟩ | refine ⟨ob, ?_⟩ | refine ⟨hK _ ?_, fun h => ?_⟩ | refine ⟨?_, ?_⟩); all_goals ((try apply hK); clear hK K))
     all_goals try clear q_
     refine z_k (fun n e => ∃ k : Nat, k + n = s.size /\ ((strL s).take k).all isInner = true /\ e = [(19, .sv (.one (.int .i64 k))), (18, .sv (.one (.int .i64 s.size))), (0, .sv (.one (.str s)))]) s.size _ ⟨0, by simp, by simp, rfl⟩ (by simp [go_sem]) ?_
     rintro n e ⟨k, hk, hall, rfl⟩
     by_cases hlt : k < s.size
     ·have hbn := strL_at hlt
      have hlt' : k < (strL s).length := by rw [strL_len]; exact hlt
      cases hi : isInner ((s[k]).toNat : Int) with
      | false =>
        repeat' first | refine St.go ?_ | ((with_reducible refine cn ?_ ?_) <;> intro h <;> (try simp [hlt, hi] at h) <;> try omega) | (refine Ru.go ?_; intro K hK; simp [go_sem, hlt, hi]; (try simp (disch := omega) only [wx, z_i]); (first | apply hK | ((try refine .inl ?_); refine ⟨_, by (try intro hc); (repeat' first | exact f132 _ | exact hc | refine And.intro ?_ ?_ | simp [go_sem, hlt, hi]); first | done | omega, ?_⟩; first | apply hK | (refine ⟨by simp [go_sem, hlt, hi], ?_⟩; apply hK)) | refine ⟨.one (.one (.bool false)), by simp [go_sem, hlt, hi], hK _ _ ?_⟩ | refine ⟨ob, ?_⟩ | refine ⟨hK _ ?_, fun h => ?_⟩ | refine ⟨?_, ?_⟩); all_goals ((try apply hK); clear hK K))
        have := all_no hlt' (by rw [<- hbn]; exact hi)
        simp [go_sem, hn, this]
      | true =>
        repeat' first | refine St.go ?_ | ((with_reducible refine cn ?_ ?_) <;> intro h <;> (try simp [hlt, hi] at h) <;> try omega) | (refine Ru.go ?_; intro K hK; simp [go_sem, hlt, hi]; (try simp (disch := omega) only [wx, z_i]); (first | apply hK | ((try refine .inl ?_); refine ⟨_, by (try intro hc); (repeat' first | exact f132 _ | exact hc | refine And.intro ?_ ?_ | simp [go_sem, hlt, hi]); first | done | omega, ?_⟩; first | apply hK | (refine ⟨by simp [go_sem, hlt, hi], ?_⟩; apply hK)) | refine ⟨.one (.one (.bool false)), by simp [go_sem, hlt, hi], hK _ _ ?_⟩ | refine ⟨ob, ?_⟩ | refine ⟨hK _ ?_, fun h => ?_⟩ | refine ⟨?_, ?_⟩); all_goals ((try apply hK); clear hK K))
        refine z_j (n - 1) _ (by omega) ⟨k + 1, by omega, ?_, rfl⟩ ?_
        ·rw [all_succ hlt', hall, <- hbn, hi]; rfl
        ·simp [go_sem]
     ·have htk : (strL s).take k = strL s := List.take_of_length_le (by rw [strL_len]; omega)
      rw [htk] at hall
      repeat' first | refine St.go ?_ | ((with_reducible refine cn ?_ ?_) <;> intro h <;> (try simp [hlt] at h) <;> try omega) | (refine Ru.go ?_; intro K hK; simp [go_sem, hlt]; (try simp (disch := omega) only [wx, z_i]); (first | apply hK | refine ⟨ob, ?_⟩ | refine ⟨hK _ ?_, fun h => ?_⟩ | refine ⟨?_, ?_⟩); all_goals ((try apply hK); clear hK K))
      simp [go_sem, hn, hl, h16, hall]
  ·have h16' : (16 : Int) < (s.size : Int) := by omega
   repeat' first | refine St.go ?_ | ((with_reducible refine cn ?_ ?_) <;> intro h <;> (try simp [he, h0, h16', hb0] at h) <;> try omega) | (refine Ru.go ?_; intro K hK; simp [go_sem, he, h0, h16', hb0]; (try simp (disch := omega) only [wx, z_i]); (first | apply hK | refine ⟨ob, ?_⟩ | refine ⟨hK _ ?_, fun h => ?_⟩ | refine ⟨?_, ?_⟩); all_goals ((try apply hK); clear hK K))
   simp [go_sem, hn, h16]
theorem any_succ {α : Type} {p : α -> Bool} {l : List α} {k : Nat} (h : k < l.length) : (l.take (k + 1)).any p = ((l.take k).any p || p l[k]) := by
 rw [List.take_succ_eq_append_getElem h, List.any_append]
 simp
def firstB {α : Type} (p : α -> Bool) (l : List α) : Int := match l.findIdx? p with
 | some i => (i : Int)
 | none => -1
theorem firstB_at {α : Type} {p : α -> Bool} {l : List α} {k : Nat} (hk : k < l.length) (h0 : (l.take k).any p = false) (h1 : p l[k] = true) : firstB p l = k := by
 have : l.findIdx? p = some k := by
  rw [List.findIdx?_eq_some_iff_getElem]
  refine ⟨hk, h1, fun j hj => ?_⟩
  rw [List.any_eq_false] at h0
  have := h0 (l[j]'(by omega)) (List.mem_iff_getElem.2 ⟨j, by rw [List.length_take]; omega, by simp⟩)
  simpa using this
 simp [firstB, this]
theorem firstB_none {α : Type} {p : α -> Bool} {l : List α} (h : l.any p = false) : firstB p l = -1 := by
 have : l.findIdx? p = none := by
  rw [List.findIdx?_eq_none_iff]
  intro x hx
  rw [List.any_eq_false] at h
  simpa using h x hx
 simp [firstB, this]
theorem firstB_any {α : Type} (p : α -> Bool) (l : List α) : decide (0 <= firstB p l) = l.any p := by
 cases h : l.any p with
 | false => rw [firstB_none h]; rfl
 | true =>
   unfold firstB
   cases h2 : l.findIdx? p with
   | none =>
     rw [List.findIdx?_eq_none_iff] at h2
     rw [List.any_eq_true] at h
     obtain ⟨x, hx, hp⟩ := h
     rw [h2 x hx] at hp
     cases hp
   | some i => simp
theorem any_bytes (l : List ByteArray) (x : ByteArray) : l.any (fun y => x == y) = hasS l x := by
 unfold hasS
 congr 1
 funext y
 rw [bytes_eq, bytes_eq]
 by_cases h : x = y
 ·subst h; rfl
 ·rw [decide_eq_false h, decide_eq_false (fun e => h e.symm)]
theorem f122 (l : List ByteArray) (x : ByteArray) (hl : l.length <= 1000000) : Impl Tryz.prog 122 [.one (.sl (l.map encS)), .one (.str x)] (.one (.one (.int .i64 (firstB (fun y => x == y) l)))) := by
 refine impl_w Tryz.func122 z122 Tryz.ntmps122 (by simp) ?_
 simp only [slotsOf]
 conv => arg 2; reduce
 repeat' first | refine St.go ?_ | ((with_reducible refine cn ?_ ?_) <;> intro h <;> (try simp at h) <;> try omega) | (refine Ru.go ?_; intro K hK; simp [go_sem]; (try simp (disch := omega) only [wx, z_i]); (first | apply hK | refine ⟨ob, ?_⟩ | refine ⟨hK _ ?_, fun h => ?_⟩ | refine ⟨?_, ?_⟩); all_goals ((try apply hK); clear hK K))
 refine z_k (fun n e => ∃ k : Nat, k + n = l.length /\ (l.take k).any (fun y => x == y) = false /\ e = [(8, .sv (.one (.int .i64 k))), (7, .sv (.one (.int .i64 l.length))), (1, .sv (.one (.str x))), (0, .sv (.one (.sl (l.map encS))))]) l.length _ ⟨0, by simp, by simp, rfl⟩ (by simp [go_sem]) ?_
 rintro n e ⟨k, hk, h0, rfl⟩
 by_cases hlt : k < l.length
 ·cases hx : (x == l[k]) with
  | true =>
    have hf := firstB_at (p := fun y => x == y) hlt h0 hx
    repeat' first | refine St.go ?_ | ((with_reducible refine cn ?_ ?_) <;> intro h <;> (try simp [hlt, hx] at h) <;> try omega) | (refine Ru.go ?_; intro K hK; simp [go_sem, hlt, encS, hx]; (try simp (disch := omega) only [wx, z_i]); (first | apply hK | refine ⟨ob, ?_⟩ | refine ⟨hK _ ?_, fun h => ?_⟩ | refine ⟨?_, ?_⟩); all_goals ((try apply hK); clear hK K))
    simp [go_sem, hf]
  | false =>
    repeat' first | refine St.go ?_ | ((with_reducible refine cn ?_ ?_) <;> intro h <;> (try simp [hlt, hx] at h) <;> try omega) | (refine Ru.go ?_; intro K hK; simp [go_sem, hlt, encS, hx]; (try simp (disch := omega) only [wx, z_i]); (first | apply hK | refine ⟨ob, ?_⟩ | refine ⟨hK _ ?_, fun h => ?_⟩ | refine ⟨?_, ?_⟩); all_goals ((try apply hK); clear hK K))
    refine z_j (n - 1) _ (by omega) ⟨k + 1, by omega, ?_, rfl⟩ ?_
    ·rw [any_succ hlt, h0, hx]; rfl
    ·simp [go_sem]
 ·have hkl : l.take k = l := List.take_of_length_le (by omega)
  rw [hkl] at h0
  have hf := firstB_none h0
  repeat' first | refine St.go ?_ | ((with_reducible refine cn ?_ ?_) <;> intro h <;> (try simp [hlt] at h) <;> try omega) | (refine Ru.go ?_; intro K hK; simp [go_sem, hlt]; (try simp (disch := omega) only [wx, z_i]); (first | apply hK | refine ⟨ob, ?_⟩ | refine ⟨hK _ ?_, fun h => ?_⟩ | refine ⟨?_, ?_⟩); all_goals ((try apply hK); clear hK K))
  simp [go_sem, hf]
theorem f106 (l : List ByteArray) (x : ByteArray) (hl : l.length <= 1000000) : Impl Tryz.prog 106 [.one (.sl (l.map encS)), .one (.str x)] (.one (.one (.bool (hasS l x)))) := by
 refine impl_w Tryz.func106 z106 Tryz.ntmps106 (by simp) ?_
 simp only [slotsOf]
 conv => arg 2; reduce
 have hf := firstB_any (fun y => x == y) l
 rw [any_bytes] at hf
 repeat' first | refine St.go ?_ | (refine Ru.go ?_; intro K hK; simp [go_sem]; (first | apply hK | ((try refine .inl ?_); refine ⟨_, by (repeat' first | exact f122 l x hl | refine And.intro ?_ ?_ | simp [go_sem]); first | done | omega, ?_⟩; first | apply hK | (refine ⟨by simp [go_sem], ?_⟩; apply hK)) | refine ⟨ob, ?_⟩ | refine ⟨hK _ ?_, fun h => ?_⟩ | refine ⟨?_, ?_⟩); all_goals ((try apply hK); clear hK K))
 simp [go_sem, hf]
theorem kws_len : kws.length <= 1000000 := by decide
theorem f105 (s : ByteArray) : Impl Tryz.prog 105 [.one (.str s)] (.one (.one (.bool (isWord s)))) := by
 refine impl_z Tryz.func105 z105 Tryz.ntmps105 (by simp) ?_
 simp only [c105, slotsOf]
 have f106s := f106 kws s kws_len
 simp only [kws, List.map_cons, List.map_nil, encS] at f106s
 have hw : isWord s = (isName s && !hasS kws s) := rfl
 simp only [kws] at hw
 cases hn : isName s with
 | true =>
   repeat' first | refine St.go ?_ | (refine Ru.go ?_; intro K hK; simp [go_sem, hn]; (first | apply hK | ((try refine .inl ?_); refine ⟨_, by (repeat' first | exact f121 s | exact f106s | refine And.intro ?_ ?_ | simp [go_sem, hn]); first | done | omega, ?_⟩; first | apply hK | (refine ⟨by simp [go_sem, hn], ?_⟩; apply hK)) | refine ⟨ob, ?_⟩ | refine ⟨hK _ ?_, fun h => ?_⟩ | refine ⟨?_, ?_⟩); all_goals ((try apply hK); clear hK K))
   simp [go_sem, hw, hn]
 | false =>
   repeat' first | refine St.go ?_ | (refine Ru.go ?_; intro K hK; simp [go_sem, hn]; (first | apply hK | ((try refine .inl ?_); refine ⟨_, by (repeat' first | exact f121 s | refine And.intro ?_ ?_ | simp [go_sem, hn]); first | done | omega, ?_⟩; first | apply hK | (refine ⟨by simp [go_sem, hn], ?_⟩; apply hK)) | refine ⟨ob, ?_⟩ | refine ⟨hK _ ?_, fun h => ?_⟩ | refine ⟨?_, ?_⟩); all_goals ((try apply hK); clear hK K))
   simp [go_sem, hw, hn]
set_option maxRecDepth 100000 in
theorem str_count (s : ByteArray) (c : UInt8) (w : World) :
  Calls Tryz.prog 154 #[.string s, .string ⟨#[c]⟩] w fun e w' => e = .returned (.int .i64 (Lib.countByte s.data.toList c)) /\ w' = w := by
 go_enter Tryz.func154, Tryz.ntmps154
 go_wp2
 rw [run_callFunc_extern Tryz.func158 (by kernel_rfl) (by kernel_rfl) (by kernel_rfl) (e := Extern.BytealgCount.count) (by kernel_rfl), Lib.run_countString]
 simp only [Result.andThen]
 rw [Oper.upon_value]
 go_wp2
 go_ret
 exact ⟨rfl, rfl⟩
set_option maxRecDepth 100000 in
theorem str_indexByte (s : ByteArray) (c : Int) (w : World) :
  Calls Tryz.prog 161 #[.string s, .int .u8 c] w fun e w' => e = .returned (.int .i64 (Lib.indexByte s.data.toList c.toNat.toUInt8)) /\ w' = w := by
 go_enter Tryz.func161, Tryz.ntmps161
 go_wp2
 rw [run_callFunc_extern Tryz.func165 (by kernel_rfl) (by kernel_rfl) (by kernel_rfl) (e := Extern.BytealgIndexByte.indexByte) (by kernel_rfl), Lib.run_indexByteString]
 simp only [Result.andThen]
 rw [Oper.upon_value]
 go_wp2
 go_ret
 exact ⟨rfl, rfl⟩
set_option maxRecDepth 100000 in
theorem str_index1 (s : ByteArray) (c : UInt8) (w : World) :
  Calls Tryz.prog 159 #[.string s, .string ⟨#[c]⟩] w fun e w' => e = .returned (.int .i64 (Lib.indexByte s.data.toList c)) /\ w' = w := by
 go_enter Tryz.func159, Tryz.ntmps159
 go_wp2_with (go_at_call 161; refine (str_indexByte _ _ _).mono ?_; rintro e w' ⟨rfl, rfl⟩)
 ·have h : ([c] == s.toList) = true := by assumption
  go_ret
  refine ⟨?_, rfl⟩
  have e : s.data.toList = [c] := by rw [<- Lib.toList_data]; exact (beq_iff_eq.1 h).symm
  rw [e]
  simp [Lib.indexByte]
 ·go_ret
  exact ⟨rfl, rfl⟩
theorem str_index (s : ByteArray) (c : UInt8) (w : World) :
  Calls Tryz.prog 155 #[.string s, .string ⟨#[c]⟩] w fun e w' => e = .returned (.int .i64 (Lib.indexByte s.data.toList c)) /\ w' = w := by
 go_enter Tryz.func155, Tryz.ntmps155
 go_wp2_with (go_at_call 159; refine (str_index1 _ _ _).mono ?_; rintro e w' ⟨rfl, rfl⟩)
 go_ret
 exact ⟨rfl, rfl⟩
theorem Impl.ofStr2 {P : Program} {f : FuncId} {fn : Func} (hf : P.funcs[f]? = some fn) (hb : fn.body.isSome = true) (hn : fn.name ≠ "runtime.NumGoroutine") {s t : ByteArray} {k : IntKind} {n : Int}
  (h : ∀ w, Calls P f #[.string s, .string t] w fun e w' => e = .returned (.int k n) /\ w' = w) : Impl P f [.one (.str s), .one (.str t)] (.one (.one (.int k n))) := by
 refine ⟨⟨fn, hf, hb, hn⟩, fun w S vs hS hv => ?_⟩
 have hvs : vs = [.string s, .string t] := by
  generalize hr : ([] : List Nat) = r at hv
  cases hv with
  | cons v x r vs xs rs h1 h2 =>
    cases h2 with
    | cons v' x' r' vs' xs' rs' h3 h4 =>
      cases h4
      cases CzS.one_inv h1
      cases CzS.one_inv h3
      rfl
 subst hvs
 refine (h w).mono ?_
 rintro e w' ⟨rfl, rfl⟩
 exact ⟨_, [], rfl, Below.refl _ _, by simp, by simp, .one _ _ _ (.one _ _ _ (.int _ _))⟩
def pieceL : List UInt8 -> List (List UInt8)
 | [] => [[]]
 | b :: l => if b = 46 then [] :: pieceL l else match pieceL l with
   | [] => [[b]]
   | p :: ps => (b :: p) :: ps
theorem pieceL_ne : ∀ (l : List UInt8), pieceL l ≠ []
 | [] => by simp [pieceL]
 | b :: l => by
   unfold pieceL
   split
   ·simp
   ·split <;> simp
theorem pieceL_no : ∀ {l : List UInt8}, 46 ∉ l -> pieceL l = [l]
 | [], _ => rfl
 | b :: l, h => by
   have h1 : b ≠ 46 := fun e => h (by simp [e])
   have h2 := pieceL_no (l := l) fun e => h (by simp [e])
   simp [pieceL, h1, h2]
theorem pieceL_at : ∀ {a l : List UInt8}, 46 ∉ a -> pieceL (a ++ 46 :: l) = a :: pieceL l
 | [], l, _ => by simp [pieceL]
 | b :: a, l, h => by
   have h1 : b ≠ 46 := fun e => h (by simp [e])
   have h2 := pieceL_at (a := a) (l := l) fun e => h (by simp [e])
   simp [pieceL, h1, h2]
def toB (l : List UInt8) : ByteArray := ⟨l.toArray⟩
theorem toB_list (s : ByteArray) : toB s.data.toList = s := by simp [toB]
theorem list_toB (l : List UInt8) : (toB l).data.toList = l := by simp [toB]
theorem size_toB (l : List UInt8) : (toB l).size = l.length := by simp [toB, ByteArray.size]
theorem extract_toB (l : List UInt8) (a b : Nat) : (toB l).extract a b = toB ((l.take b).drop a) := by
 have h : ((toB l).extract a b).data.toList = ((l.take b).drop a) := by
  rw [ByteArray.data_extract, Array.toList_extract, list_toB, List.extract_eq_take_drop, List.drop_take]
 rw [<- h, toB_list]
theorem index_at : ∀ {a l : List UInt8}, 46 ∉ a -> Lib.indexByte (a ++ 46 :: l) 46 = a.length
 | [], l, _ => by simp [Lib.indexByte]
 | b :: a, l, h => by
   have h1 : ¬ b = 46 := fun e => h (by simp [e])
   have h2 := index_at (a := a) (l := l) fun e => h (by simp [e])
   have h3 : ¬ ((a.length : Int) = -1) := by omega
   simp [Lib.indexByte, h1, h2, h3]
theorem split_at : ∀ (l : List UInt8), 46 ∈ l -> ∃ a b, l = a ++ 46 :: b /\ 46 ∉ a
 | [], h => by cases h
 | x :: l, h => by
   by_cases e : x = 46
   ·subst e
    exact ⟨[], l, rfl, by simp⟩
   ·rcases List.mem_cons.1 h with h | h
    ·exact (e h.symm).elim
    ·obtain ⟨a, b, rfl, h2⟩ := split_at l h
     exact ⟨x :: a, b, rfl, by simp [h2, Ne.symm e]⟩
theorem pieceL_len : ∀ (l : List UInt8), (pieceL l).length = Lib.countByte l 46 + 1
 | [] => rfl
 | b :: l => by
   have ih := pieceL_len l
   unfold pieceL
   simp only [Lib.countByte, List.count_cons] at ih ⊢
   split
   ·rename_i e
    subst e
    simp [ih]
   ·rename_i e
    have hn := pieceL_ne l
    split
    ·contradiction
    ·rename_i p ps hp
     rw [hp] at ih
     simp [e] at ih ⊢
     omega
def pieceB (s : ByteArray) : List ByteArray := (pieceL s.data.toList).map toB
end Go.Av
