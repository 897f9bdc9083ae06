/- Part of a proof by symbolic walks on plain data. -/
import Derived.Test.YtpdfolkoejbbgaaGreatDoorF8
import Derived.Test.YtpdfolkoejbbgaaGreatDoorProg
set_option linter.unusedVariables false
set_option linter.unusedSimpArgs false
set_option maxHeartbeats 4000000
namespace Go.Av
open Go Go.RowKit Go.Proofs
/-- What is known of a function's text. -/
structure FnF (P : Program) (f : Func) (m : Nat) (c : AC) (rs : List ResultVar) : Prop where
  b : f.body = some (f.body.getD .skip)
  e : slim (f.body.getD .skip) = c
  d : textOk P m (f.body.getD .skip) = true
  r : f.results.toList = rs
  n : f.name ≠ "runtime.NumGoroutine"
theorem impl_z {P : Program} {f : FuncId} {fn : Func} {ac : AC} {rl : List ResultVar} (hf : P.funcs[f]? = some fn) {N : Nat} (z : FnF P fn N ac rl) (hN0 : fn.ntmps = N) {args : List SV} {r : RV} (hN : args.length ≤ N) (h : awp P ac (endsIn P rl r) (slotsOf 0 args)) : Impl P f args r :=
  impl_intro hf z.b z.e z.r z.n hN0 z.d hN fun _ => h
def c3 : AC :=
 .seq (.reg [⟨some 3, .box 27 (.tmp 0), none⟩, ⟨some 6, .assign (.const (.bool false)), none⟩] ⟨1, 0, []⟩ []) (.seq (.seq (.reg [⟨some 11, .call ⟨.value (.func 9), #[], #[]⟩, none⟩, ⟨some 12, .unOp .not
 4 (.tmp 11), none⟩, ⟨some 13, .move (.tmp 12), none⟩, ⟨some 14, .load 27 (.tmp 3), some (13, false)⟩, ⟨some 15, .call ⟨.value (.func 10), #[.tmp 14], #[27]⟩, some (13, false)⟩, ⟨some 16, .unOp .not 4
 (.tmp 15), some (13, false)⟩, ⟨some 17, .pick (.tmp 13) (.const (.bool true)) (.tmp 16), none⟩, ⟨some 18, .move (.tmp 17), none⟩, ⟨some 19, .move (.tmp 1), some (18, false)⟩, ⟨some 20, .call ⟨.builtin
 .len, #[.tmp 19], #[28]⟩, some (18, false)⟩, ⟨some 21, .binOp .gtr 3 (.tmp 20) (.const (.int .i64 30)) 3, some (18, false)⟩, ⟨some 22, .pick (.tmp 18) (.const (.bool true)) (.tmp 21), none⟩] ⟨11, 21,
 []⟩ []) (.cond (.tmp 22) (.seq (.reg [⟨some 23, .call ⟨.value (.func 9), #[], #[]⟩, none⟩, ⟨some 6, .assign (.tmp 23), none⟩] ⟨23, 23, []⟩ []) .ret) .skip)) (.seq (.reg [⟨some 25, .load 27 (.tmp 3),
 none⟩, ⟨some 26, .move (.tmp 1), none⟩, ⟨some 27, .call ⟨.value (.func 11), #[.tmp 25, .tmp 26], #[27, 28]⟩, none⟩, ⟨some 24, .move (.tmp 27), none⟩, ⟨some 28, .extract (.tmp 24) 0, none⟩, ⟨some 29,
 .extract (.tmp 24) 1, none⟩, ⟨some 7, .assign (.tmp 28), none⟩, ⟨some 8, .assign (.tmp 29), none⟩] ⟨24, 29, []⟩ []) (.seq (.reg [⟨some 31, .load 27 (.tmp 3), none⟩, ⟨some 32, .move (.tmp 1), none⟩,
 ⟨some 33, .call ⟨.value (.func 12), #[.tmp 31, .tmp 32], #[27, 28]⟩, none⟩, ⟨some 30, .move (.tmp 33), none⟩, ⟨some 34, .extract (.tmp 30) 0, none⟩, ⟨some 35, .extract (.tmp 30) 1, none⟩, ⟨some 9,
 .assign (.tmp 34), none⟩, ⟨some 10, .assign (.tmp 35), none⟩] ⟨30, 35, []⟩ []) (.seq (.reg [⟨some 36, .move (.tmp 7), none⟩, ⟨some 37, .move (.tmp 9), none⟩, ⟨some 38, .binOp .eql 3 (.tmp 36) (.tmp 37)
 3, none⟩, ⟨some 39, .move (.tmp 38), none⟩, ⟨some 40, .move (.tmp 8), some (39, true)⟩, ⟨some 41, .move (.tmp 10), some (39, true)⟩, ⟨some 42, .binOp .eql 4 (.tmp 40) (.tmp 41) 4, some (39, true)⟩,
 ⟨some 43, .pick (.tmp 39) (.tmp 42) (.const (.bool false)), none⟩, ⟨some 44, .move (.tmp 43), none⟩, ⟨some 45, .move (.tmp 1), some (44, true)⟩, ⟨some 46, .move (.tmp 2), some (44, true)⟩, ⟨some 47,
 .call ⟨.value (.func 14), #[.tmp 45, .tmp 46], #[28, 3]⟩, some (44, true)⟩, ⟨some 48, .move (.tmp 1), some (44, true)⟩, ⟨some 49, .move (.tmp 2), some (44, true)⟩, ⟨some 50, .call ⟨.value (.func 15),
 #[.tmp 48, .tmp 49], #[28, 3]⟩, some (44, true)⟩, ⟨some 51, .call ⟨.value (.func 13), #[.tmp 47, .tmp 50], #[34, 34]⟩, some (44, true)⟩, ⟨some 52, .pick (.tmp 44) (.tmp 51) (.const (.bool false)),
 none⟩, ⟨some 6, .assign (.tmp 52), none⟩] ⟨36, 52, []⟩ []) .ret))))
theorem z3 : FnF Tryz.prog Tryz.f3 53 c3 [.tmp 6] := ⟨by kernel_rfl, by kernel_rfl, by kernel_rfl, by kernel_rfl, by decide⟩
def c9 : AC :=
 .seq (.reg [⟨some 0, .assign (.const (.bool false)), none⟩] ⟨1, 0, []⟩ []) (.seq (.reg [⟨some 6, .build 52 #[(0, .const (.int .i64 0)), (1, .const (.int .i64 1))], none⟩, ⟨some 7, .build 52 #[(0,
 .const (.int .i64 2)), (1, .const (.int .i64 3)), (2, .const (.int .i64 1))], none⟩, ⟨some 1, .alloc 52, none⟩, ⟨some 2, .alloc 52, none⟩, ⟨none, .store 52 (.tmp 1) (.tmp 6), none⟩, ⟨none, .store 52
 (.tmp 2) (.tmp 7), none⟩] ⟨6, 7, []⟩ []) (.seq (.reg [⟨some 8, .load 52 (.tmp 2), none⟩, ⟨some 9, .load 52 (.tmp 1), none⟩, ⟨some 10, .buildSlice 28 2 #[(0, .tmp 8), (1, .tmp 9)], none⟩, ⟨some 11,
 .call ⟨.value (.func 33), #[.tmp 10], #[28]⟩, none⟩, ⟨some 3, .assign (.tmp 11), none⟩] ⟨8, 11, []⟩ []) (.seq (.reg [⟨some 13, .move (.tmp 3), none⟩, ⟨some 14, .call ⟨.value (.func 35), #[.tmp 13,
 .const (.int .i64 4)], #[28, 3]⟩, none⟩, ⟨some 15, .call ⟨.value (.func 34), #[.tmp 14], #[81]⟩, none⟩, ⟨some 12, .move (.tmp 15), none⟩, ⟨some 16, .extract (.tmp 12) 0, none⟩, ⟨some 17, .extract (.tmp
 12) 1, none⟩, ⟨some 4, .assign (.tmp 16), none⟩, ⟨some 5, .assign (.tmp 17), none⟩] ⟨12, 17, []⟩ []) (.seq (.drw [⟨⟨some 18, .load 52 (.tmp 1), none⟩, []⟩, ⟨⟨some 19, .load 52 (.tmp 2), none⟩, []⟩,
 ⟨⟨some 20, .call ⟨.value (.func 36), #[.tmp 18, .tmp 19], #[52, 52]⟩, none⟩, [18, 19]⟩, ⟨⟨some 21, .move (.tmp 20), none⟩, [20, 18, 19]⟩, ⟨⟨some 22, .move (.tmp 3), some (21, true)⟩, [21, 20, 18, 19]⟩,
 ⟨⟨some 23, .call ⟨.builtin .len, #[.tmp 22], #[28]⟩, some (21, true)⟩, [22, 21, 20, 18, 19]⟩, ⟨⟨some 24, .binOp .eql 3 (.tmp 23) (.const (.int .i64 2)) 3, some (21, true)⟩, [23, 22, 21, 20, 18, 19]⟩,
 ⟨⟨some 25, .pick (.tmp 21) (.tmp 24) (.const (.bool false)), none⟩, [24, 23, 22, 21, 20, 18, 19]⟩, ⟨⟨some 26, .move (.tmp 25), none⟩, [25, 24, 23, 22, 21, 20, 18, 19]⟩, ⟨⟨some 27, .move (.tmp 3), some
 (26, true)⟩, [26, 25, 24, 23, 22, 21, 20, 18, 19]⟩, ⟨⟨some 28, .indexAddr 28 (.tmp 27) (.const (.int .i64 0)), some (26, true)⟩, [27, 26, 25, 24, 23, 22, 21, 20, 18, 19]⟩, ⟨⟨some 29, .load 52 (.tmp
 28), some (26, true)⟩, [28, 27, 26, 25, 24, 23, 22, 21, 20, 18, 19]⟩, ⟨⟨some 30, .load 52 (.tmp 1), some (26, true)⟩, [26, 25, 24, 23, 22, 21, 20, 18, 19]⟩, ⟨⟨some 31, .binOp .eql 52 (.tmp 29) (.tmp
 30) 52, some (26, true)⟩, [29, 28, 27, 30, 26, 25, 24, 23, 22, 21, 20, 18, 19]⟩, ⟨⟨some 32, .pick (.tmp 26) (.tmp 31) (.const (.bool false)), none⟩, [31, 29, 28, 27, 30, 26, 25, 24, 23, 22, 21, 20, 18,
 19]⟩, ⟨⟨some 33, .move (.tmp 32), none⟩, [32, 31, 29, 28, 27, 30, 26, 25, 24, 23, 22, 21, 20, 18, 19]⟩, ⟨⟨some 34, .move (.tmp 5), some (33, true)⟩, [33, 32, 31, 29, 28, 27, 30, 26, 25, 24, 23, 22, 21,
 20, 18, 19]⟩, ⟨⟨some 35, .pick (.tmp 33) (.tmp 34) (.const (.bool false)), none⟩, [34, 33, 32, 31, 29, 28, 27, 30, 26, 25, 24, 23, 22, 21, 20, 18, 19]⟩, ⟨⟨some 36, .move (.tmp 35), none⟩, [35, 34, 33,
 32, 31, 29, 28, 27, 30, 26, 25, 24, 23, 22, 21, 20, 18, 19]⟩, ⟨⟨some 37, .move (.tmp 4), some (36, true)⟩, [36, 35, 34, 33, 32, 31, 29, 28, 27, 30, 26, 25, 24, 23, 22, 21, 20, 18, 19]⟩, ⟨⟨some 38,
 .call ⟨.builtin .len, #[.tmp 37], #[28]⟩, some (36, true)⟩, [37, 36, 35, 34, 33, 32, 31, 29, 28, 27, 30, 26, 25, 24, 23, 22, 21, 20, 18, 19]⟩, ⟨⟨some 39, .binOp .eql 3 (.tmp 38) (.const (.int .i64 2))
 3, some (36, true)⟩, [38, 37, 36, 35, 34, 33, 32, 31, 29, 28, 27, 30, 26, 25, 24, 23, 22, 21, 20, 18, 19]⟩, ⟨⟨some 40, .pick (.tmp 36) (.tmp 39) (.const (.bool false)), none⟩, [39, 38, 37, 36, 35, 34,
 33, 32, 31, 29, 28, 27, 30, 26, 25, 24, 23, 22, 21, 20, 18, 19]⟩, ⟨⟨some 41, .move (.tmp 40), none⟩, [40, 39, 38, 37, 36, 35, 34, 33, 32, 31, 29, 28, 27, 30, 26, 25, 24, 23, 22, 21, 20, 18, 19]⟩,
 ⟨⟨some 42, .move (.tmp 3), some (41, true)⟩, [41, 40, 39, 38, 37, 36, 35, 34, 33, 32, 31, 29, 28, 27, 30, 26, 25, 24, 23, 22, 21, 20, 18, 19]⟩, ⟨⟨some 43, .load 52 (.tmp 2), some (41, true)⟩, [41, 40,
 39, 38, 37, 36, 35, 34, 33, 32, 31, 29, 28, 27, 30, 26, 25, 24, 23, 22, 21, 20, 18, 19]⟩, ⟨⟨some 44, .load 52 (.tmp 1), some (41, true)⟩, [41, 40, 39, 38, 37, 36, 35, 34, 33, 32, 31, 29, 28, 27, 30,
 26, 25, 24, 23, 22, 21, 20, 18, 19]⟩, ⟨⟨some 45, .buildSlice 28 2 #[(0, .tmp 43), (1, .tmp 44)], some (41, true)⟩, [43, 44, 41, 40, 39, 38, 37, 36, 35, 34, 33, 32, 31, 29, 28, 27, 30, 26, 25, 24, 23,
 22, 21, 20, 18, 19]⟩, ⟨⟨some 46, .call ⟨.value (.func 37), #[.tmp 42, .tmp 45], #[28, 28]⟩, some (41, true)⟩, [42, 45, 43, 44, 41, 40, 39, 38, 37, 36, 35, 34, 33, 32, 31, 29, 28, 27, 30, 26, 25, 24,
 23, 22, 21, 20, 18, 19]⟩, ⟨⟨some 47, .pick (.tmp 41) (.tmp 46) (.const (.bool false)), none⟩, [46, 42, 45, 43, 44, 41, 40, 39, 38, 37, 36, 35, 34, 33, 32, 31, 29, 28, 27, 30, 26, 25, 24, 23, 22, 21,
 20, 18, 19]⟩, ⟨⟨some 48, .move (.tmp 47), none⟩, [47, 46, 42, 45, 43, 44, 41, 40, 39, 38, 37, 36, 35, 34, 33, 32, 31, 29, 28, 27, 30, 26, 25, 24, 23, 22, 21, 20, 18, 19]⟩, ⟨⟨some 49, .move (.tmp 3),
 some (48, true)⟩, [48, 47, 46, 42, 45, 43, 44, 41, 40, 39, 38, 37, 36, 35, 34, 33, 32, 31, 29, 28, 27, 30, 26, 25, 24, 23, 22, 21, 20, 18, 19]⟩, ⟨⟨some 50, .call ⟨.value (.func 14), #[.tmp 49, .const
 (.int .i64 2)], #[28, 3]⟩, some (48, true)⟩, [49, 48, 47, 46, 42, 45, 43, 44, 41, 40, 39, 38, 37, 36, 35, 34, 33, 32, 31, 29, 28, 27, 30, 26, 25, 24, 23, 22, 21, 20, 18, 19]⟩, ⟨⟨some 51, .call
 ⟨.builtin .len, #[.tmp 50], #[34]⟩, some (48, true)⟩, [50, 49, 48, 47, 46, 42, 45, 43, 44, 41, 40, 39, 38, 37, 36, 35, 34, 33, 32, 31, 29, 28, 27, 30, 26, 25, 24, 23, 22, 21, 20, 18, 19]⟩, ⟨⟨some 52,
 .binOp .eql 3 (.tmp 51) (.const (.int .i64 1)) 3, some (48, true)⟩, [51, 50, 49, 48, 47, 46, 42, 45, 43, 44, 41, 40, 39, 38, 37, 36, 35, 34, 33, 32, 31, 29, 28, 27, 30, 26, 25, 24, 23, 22, 21, 20, 18,
 19]⟩, ⟨⟨some 53, .pick (.tmp 48) (.tmp 52) (.const (.bool false)), none⟩, [52, 51, 50, 49, 48, 47, 46, 42, 45, 43, 44, 41, 40, 39, 38, 37, 36, 35, 34, 33, 32, 31, 29, 28, 27, 30, 26, 25, 24, 23, 22,
 21, 20, 18, 19]⟩] [⟨⟨some 0, .assign (.tmp 53), none⟩, [53, 52, 51, 50, 49, 48, 47, 46, 42, 45, 43, 44, 41, 40, 39, 38, 37, 36, 35, 34, 33, 32, 31, 29, 28, 27, 30, 26, 25, 24, 23, 22, 21, 20, 18, 19],
 []⟩] ⟨18, 53, []⟩ ⟨18, 53, []⟩ []) .ret))))
theorem z9 : FnF Tryz.prog Tryz.f9 54 c9 [.tmp 0] := ⟨by kernel_rfl, by kernel_rfl, by kernel_rfl, by kernel_rfl, by decide⟩
def c10 : AC :=
 .seq (.reg [⟨some 1, .box 27 (.tmp 0), none⟩, ⟨some 2, .assign (.const (.bool false)), none⟩] ⟨1, 0, []⟩ []) (.seq (.reg [⟨some 3, .fieldAddr 27 (.tmp 1) 3, none⟩, ⟨some 4, .load 3 (.tmp 3), none⟩,
 ⟨some 5, .binOp .leq 3 (.tmp 4) (.const (.int .i64 40)) 3, none⟩, ⟨some 6, .move (.tmp 5), none⟩, ⟨some 7, .fieldAddr 27 (.tmp 1) 6, some (6, true)⟩, ⟨some 8, .load 24 (.tmp 7), some (6, true)⟩, ⟨some
 9, .call ⟨.builtin .len, #[.tmp 8], #[24]⟩, some (6, true)⟩, ⟨some 10, .binOp .leq 3 (.tmp 9) (.const (.int .i64 80)) 3, some (6, true)⟩, ⟨some 11, .pick (.tmp 6) (.tmp 10) (.const (.bool false)),
 none⟩, ⟨some 12, .move (.tmp 11), none⟩, ⟨some 13, .fieldAddr 27 (.tmp 1) 7, some (12, true)⟩, ⟨some 14, .load 25 (.tmp 13), some (12, true)⟩, ⟨some 15, .call ⟨.builtin .len, #[.tmp 14], #[25]⟩, some
 (12, true)⟩, ⟨some 16, .binOp .leq 3 (.tmp 15) (.const (.int .i64 40)) 3, some (12, true)⟩, ⟨some 17, .pick (.tmp 12) (.tmp 16) (.const (.bool false)), none⟩, ⟨some 18, .move (.tmp 17), none⟩, ⟨some
 19, .fieldAddr 27 (.tmp 1) 1, some (18, true)⟩, ⟨some 20, .load 22 (.tmp 19), some (18, true)⟩, ⟨some 21, .call ⟨.builtin .len, #[.tmp 20], #[22]⟩, some (18, true)⟩, ⟨some 22, .binOp .leq 3 (.tmp 21)
 (.const (.int .i64 10)) 3, some (18, true)⟩, ⟨some 23, .pick (.tmp 18) (.tmp 22) (.const (.bool false)), none⟩, ⟨some 24, .move (.tmp 23), none⟩, ⟨some 25, .fieldAddr 27 (.tmp 1) 2, some (24, true)⟩,
 ⟨some 26, .load 23 (.tmp 25), some (24, true)⟩, ⟨some 27, .call ⟨.value (.func 38), #[.tmp 26], #[23]⟩, some (24, true)⟩, ⟨some 28, .pick (.tmp 24) (.tmp 27) (.const (.bool false)), none⟩, ⟨some 2,
 .assign (.tmp 28), none⟩] ⟨3, 28, []⟩ []) .ret)
theorem z10 : FnF Tryz.prog Tryz.f10 29 c10 [.tmp 2] := ⟨by kernel_rfl, by kernel_rfl, by kernel_rfl, by kernel_rfl, by decide⟩
def c11 : AC :=
 .seq (.reg [⟨some 2, .box 27 (.tmp 0), none⟩, ⟨some 4, .assign (.const (.int .i64 0)), none⟩, ⟨some 5, .assign (.const (.bool false)), none⟩] ⟨1, 0, []⟩ []) (.seq (.seq (.reg [⟨some 11, .load 27 (.tmp
 2), none⟩, ⟨some 12, .call ⟨.value (.func 29), #[.tmp 11], #[27]⟩, none⟩, ⟨some 13, .unOp .not 4 (.tmp 12), none⟩] ⟨11, 12, []⟩ []) (.cond (.tmp 13) (.seq (.reg [⟨some 4, .assign (.const (.int .i64
 0)), none⟩, ⟨some 5, .assign (.const (.bool false)), none⟩] ⟨1, 0, []⟩ []) .ret) .skip)) (.seq (.reg [⟨some 14, .fieldAddr 27 (.tmp 2) 4, none⟩, ⟨some 15, .load 3 (.tmp 14), none⟩, ⟨some 6, .assign
 (.tmp 15), none⟩] ⟨14, 15, []⟩ []) (.seq (.seq (.reg [⟨some 16, .move (.tmp 1), none⟩, ⟨some 17, .call ⟨.builtin .len, #[.tmp 16], #[28]⟩, none⟩, ⟨some 18, .move (.const (.int .i64 0)), none⟩] ⟨1, 0,
 []⟩ []) (.block 0 (.loop (.seq (.reg [⟨some 19, .binOp .lss 3 (.tmp 18) (.tmp 17) 3, none⟩] ⟨1, 0, []⟩ []) (.seq (.cond (.tmp 19) .skip (.exit 0)) (.seq (.block 1 (.seq (.reg [⟨some 20, .indexAddr 28
 (.tmp 16) (.tmp 18), none⟩, ⟨some 21, .load 52 (.tmp 20), none⟩, ⟨some 8, .alloc 52, none⟩, ⟨none, .store 52 (.tmp 8) (.tmp 21), none⟩] ⟨20, 21, []⟩ []) (.seq (.reg [⟨some 23, .load 27 (.tmp 2), none⟩,
 ⟨some 24, .move (.tmp 6), none⟩, ⟨some 25, .load 52 (.tmp 8), none⟩, ⟨some 26, .call ⟨.value (.func 31), #[.tmp 23, .tmp 24, .tmp 25], #[27, 3, 52]⟩, none⟩, ⟨some 22, .move (.tmp 26), none⟩, ⟨some 27,
 .extract (.tmp 22) 0, none⟩, ⟨some 28, .extract (.tmp 22) 1, none⟩, ⟨some 9, .assign (.tmp 27), none⟩, ⟨some 10, .assign (.tmp 28), none⟩] ⟨22, 28, []⟩ []) (.seq (.seq (.reg [⟨some 29, .move (.tmp 10),
 none⟩, ⟨some 30, .unOp .not 4 (.tmp 29), none⟩] ⟨29, 29, []⟩ []) (.cond (.tmp 30) (.seq (.reg [⟨some 4, .assign (.const (.int .i64 0)), none⟩, ⟨some 5, .assign (.const (.bool false)), none⟩] ⟨1, 0, []⟩
 []) .ret) .skip)) (.reg [⟨some 31, .move (.tmp 9), none⟩, ⟨some 6, .assign (.tmp 31), none⟩] ⟨31, 31, []⟩ []))))) (.reg [⟨some 32, .binOp .add 3 (.tmp 18) (.const (.int .i64 1)) 3, none⟩, ⟨some 18,
 .move (.tmp 32), none⟩] ⟨32, 32, []⟩ []))))))) (.seq (.reg [⟨some 33, .move (.tmp 6), none⟩, ⟨some 4, .assign (.tmp 33), none⟩, ⟨some 5, .assign (.const (.bool true)), none⟩] ⟨33, 33, []⟩ []) .ret))))
theorem z11 : FnF Tryz.prog Tryz.f11 34 c11 [.tmp 4, .tmp 5] := ⟨by kernel_rfl, by kernel_rfl, by kernel_rfl, by kernel_rfl, by decide⟩
def c12 : AC :=
 .seq (.reg [⟨some 2, .box 27 (.tmp 0), none⟩, ⟨some 4, .assign (.const (.int .i64 0)), none⟩, ⟨some 5, .assign (.const (.bool false)), none⟩] ⟨1, 0, []⟩ []) (.seq (.seq (.reg [⟨some 10, .load 27 (.tmp
 2), none⟩, ⟨some 11, .call ⟨.value (.func 26), #[.tmp 10], #[27]⟩, none⟩, ⟨some 12, .unOp .not 4 (.tmp 11), none⟩] ⟨10, 11, []⟩ []) (.cond (.tmp 12) (.seq (.reg [⟨some 4, .assign (.const (.int .i64
 0)), none⟩, ⟨some 5, .assign (.const (.bool false)), none⟩] ⟨1, 0, []⟩ []) .ret) .skip)) (.seq (.reg [⟨some 13, .fieldAddr 27 (.tmp 2) 4, none⟩, ⟨some 14, .load 3 (.tmp 13), none⟩, ⟨some 6, .assign
 (.tmp 14), none⟩] ⟨13, 14, []⟩ []) (.seq (.seq (.reg [⟨some 7, .assign (.const (.int .i64 0)), none⟩] ⟨1, 0, []⟩ []) (.block 0 (.loop (.seq (.seq (.reg [⟨some 15, .move (.tmp 7), none⟩, ⟨some 16, .move
 (.tmp 1), none⟩, ⟨some 17, .call ⟨.builtin .len, #[.tmp 16], #[28]⟩, none⟩, ⟨some 18, .binOp .lss 3 (.tmp 15) (.tmp 17) 3, none⟩] ⟨15, 17, []⟩ []) (.cond (.tmp 18) .skip (.exit 0))) (.seq (.block 1
 (.seq (.drw [⟨⟨some 22, .load 27 (.tmp 2), none⟩, []⟩, ⟨⟨some 23, .move (.tmp 6), none⟩, []⟩, ⟨⟨some 24, .move (.tmp 1), none⟩, []⟩, ⟨⟨some 25, .move (.tmp 7), none⟩, []⟩, ⟨⟨some 26, .indexAddr 28
 (.tmp 24) (.tmp 25), none⟩, [24, 25]⟩, ⟨⟨some 27, .load 52 (.tmp 26), none⟩, [26, 24, 25]⟩, ⟨⟨some 28, .call ⟨.value (.func 39), #[.tmp 22, .tmp 23, .tmp 27], #[27, 3, 52]⟩, none⟩, [22, 23, 27, 26, 24,
 25]⟩, ⟨⟨some 21, .move (.tmp 28), none⟩, [28, 22, 23, 27, 26, 24, 25]⟩, ⟨⟨some 29, .extract (.tmp 21) 0, none⟩, [21, 28, 22, 23, 27, 26, 24, 25]⟩, ⟨⟨some 30, .extract (.tmp 21) 1, none⟩, [21, 28, 22,
 23, 27, 26, 24, 25]⟩] [⟨⟨some 8, .assign (.tmp 29), none⟩, [29, 21, 28, 22, 23, 27, 26, 24, 25], [false, false, false, false, false, false, false, false, false, true]⟩, ⟨⟨some 9, .assign (.tmp 30),
 none⟩, [30, 21, 28, 22, 23, 27, 26, 24, 25], []⟩] ⟨21, 30, []⟩ ⟨21, 30, []⟩ []) (.seq (.seq (.reg [⟨some 31, .move (.tmp 9), none⟩, ⟨some 32, .unOp .not 4 (.tmp 31), none⟩] ⟨31, 31, []⟩ []) (.cond
 (.tmp 32) (.seq (.reg [⟨some 4, .assign (.const (.int .i64 0)), none⟩, ⟨some 5, .assign (.const (.bool false)), none⟩] ⟨1, 0, []⟩ []) .ret) .skip)) (.reg [⟨some 33, .move (.tmp 8), none⟩, ⟨some 6,
 .assign (.tmp 33), none⟩] ⟨33, 33, []⟩ [])))) (.reg [⟨some 19, .move (.tmp 7), none⟩, ⟨some 20, .binOp .add 3 (.tmp 19) (.const (.int .i64 1)) 3, none⟩, ⟨some 7, .assign (.tmp 20), none⟩] ⟨19, 20, []⟩
 [])))))) (.seq (.reg [⟨some 34, .move (.tmp 6), none⟩, ⟨some 4, .assign (.tmp 34), none⟩, ⟨some 5, .assign (.const (.bool true)), none⟩] ⟨34, 34, []⟩ []) .ret))))
theorem z12 : FnF Tryz.prog Tryz.f12 35 c12 [.tmp 4, .tmp 5] := ⟨by kernel_rfl, by kernel_rfl, by kernel_rfl, by kernel_rfl, by decide⟩
def c13 : AC :=
 .seq (.reg [⟨some 4, .assign (.const (.bool false)), none⟩] ⟨1, 0, []⟩ []) (.seq (.seq (.reg [⟨some 6, .move (.tmp 0), none⟩, ⟨some 7, .call ⟨.builtin .len, #[.tmp 6], #[34]⟩, none⟩, ⟨some 8, .move
 (.tmp 1), none⟩, ⟨some 9, .call ⟨.builtin .len, #[.tmp 8], #[34]⟩, none⟩, ⟨some 10, .binOp .neq 3 (.tmp 7) (.tmp 9) 3, none⟩] ⟨6, 9, []⟩ []) (.cond (.tmp 10) (.seq (.reg [⟨some 4, .assign (.const
 (.bool false)), none⟩] ⟨1, 0, []⟩ []) .ret) .skip)) (.seq (.seq (.reg [⟨some 5, .assign (.const (.int .i64 0)), none⟩] ⟨1, 0, []⟩ []) (.block 0 (.loop (.seq (.seq (.reg [⟨some 11, .move (.tmp 5),
 none⟩, ⟨some 12, .move (.tmp 0), none⟩, ⟨some 13, .call ⟨.builtin .len, #[.tmp 12], #[34]⟩, none⟩, ⟨some 14, .binOp .lss 3 (.tmp 11) (.tmp 13) 3, none⟩] ⟨11, 13, []⟩ []) (.cond (.tmp 14) .skip (.exit
 0))) (.seq (.block 1 (.seq (.drw [⟨⟨some 17, .move (.tmp 0), none⟩, []⟩, ⟨⟨some 18, .move (.tmp 5), none⟩, []⟩, ⟨⟨some 19, .indexAddr 34 (.tmp 17) (.tmp 18), none⟩, [17, 18]⟩, ⟨⟨some 20, .fieldAddr 88
 (.tmp 19) 0, none⟩, [19, 17, 18]⟩, ⟨⟨some 21, .load 3 (.tmp 20), none⟩, [20, 19, 17, 18]⟩, ⟨⟨some 22, .move (.tmp 1), none⟩, []⟩, ⟨⟨some 23, .move (.tmp 5), none⟩, []⟩, ⟨⟨some 24, .indexAddr 34 (.tmp
 22) (.tmp 23), none⟩, [22, 23]⟩, ⟨⟨some 25, .fieldAddr 88 (.tmp 24) 0, none⟩, [24, 22, 23]⟩, ⟨⟨some 26, .load 3 (.tmp 25), none⟩, [25, 24, 22, 23]⟩, ⟨⟨some 27, .binOp .neq 3 (.tmp 21) (.tmp 26) 3,
 none⟩, [21, 20, 19, 17, 18, 26, 25, 24, 22, 23]⟩, ⟨⟨some 28, .move (.tmp 27), none⟩, [27, 21, 20, 19, 17, 18, 26, 25, 24, 22, 23]⟩, ⟨⟨some 29, .move (.tmp 0), some (28, false)⟩, [28, 27, 21, 20, 19,
 17, 18, 26, 25, 24, 22, 23]⟩, ⟨⟨some 30, .move (.tmp 5), some (28, false)⟩, [28, 27, 21, 20, 19, 17, 18, 26, 25, 24, 22, 23]⟩, ⟨⟨some 31, .indexAddr 34 (.tmp 29) (.tmp 30), some (28, false)⟩, [29, 30,
 28, 27, 21, 20, 19, 17, 18, 26, 25, 24, 22, 23]⟩, ⟨⟨some 32, .fieldAddr 88 (.tmp 31) 1, some (28, false)⟩, [31, 29, 30, 28, 27, 21, 20, 19, 17, 18, 26, 25, 24, 22, 23]⟩, ⟨⟨some 33, .load 4 (.tmp 32),
 some (28, false)⟩, [32, 31, 29, 30, 28, 27, 21, 20, 19, 17, 18, 26, 25, 24, 22, 23]⟩, ⟨⟨some 34, .move (.tmp 1), some (28, false)⟩, [28, 27, 21, 20, 19, 17, 18, 26, 25, 24, 22, 23]⟩, ⟨⟨some 35, .move
 (.tmp 5), some (28, false)⟩, [28, 27, 21, 20, 19, 17, 18, 26, 25, 24, 22, 23]⟩, ⟨⟨some 36, .indexAddr 34 (.tmp 34) (.tmp 35), some (28, false)⟩, [34, 35, 28, 27, 21, 20, 19, 17, 18, 26, 25, 24, 22,
 23]⟩, ⟨⟨some 37, .fieldAddr 88 (.tmp 36) 1, some (28, false)⟩, [36, 34, 35, 28, 27, 21, 20, 19, 17, 18, 26, 25, 24, 22, 23]⟩, ⟨⟨some 38, .load 4 (.tmp 37), some (28, false)⟩, [37, 36, 34, 35, 28, 27,
 21, 20, 19, 17, 18, 26, 25, 24, 22, 23]⟩, ⟨⟨some 39, .binOp .neq 4 (.tmp 33) (.tmp 38) 4, some (28, false)⟩, [33, 32, 31, 29, 30, 38, 37, 36, 34, 35, 28, 27, 21, 20, 19, 17, 18, 26, 25, 24, 22, 23]⟩,
 ⟨⟨some 40, .pick (.tmp 28) (.const (.bool true)) (.tmp 39), none⟩, [39, 33, 32, 31, 29, 30, 38, 37, 36, 34, 35, 28, 27, 21, 20, 19, 17, 18, 26, 25, 24, 22, 23]⟩, ⟨⟨some 41, .move (.tmp 40), none⟩, [40,
 39, 33, 32, 31, 29, 30, 38, 37, 36, 34, 35, 28, 27, 21, 20, 19, 17, 18, 26, 25, 24, 22, 23]⟩, ⟨⟨some 42, .move (.tmp 0), some (41, false)⟩, [41, 40, 39, 33, 32, 31, 29, 30, 38, 37, 36, 34, 35, 28, 27,
 21, 20, 19, 17, 18, 26, 25, 24, 22, 23]⟩, ⟨⟨some 43, .move (.tmp 5), some (41, false)⟩, [41, 40, 39, 33, 32, 31, 29, 30, 38, 37, 36, 34, 35, 28, 27, 21, 20, 19, 17, 18, 26, 25, 24, 22, 23]⟩, ⟨⟨some 44,
 .indexAddr 34 (.tmp 42) (.tmp 43), some (41, false)⟩, [42, 43, 41, 40, 39, 33, 32, 31, 29, 30, 38, 37, 36, 34, 35, 28, 27, 21, 20, 19, 17, 18, 26, 25, 24, 22, 23]⟩, ⟨⟨some 45, .fieldAddr 88 (.tmp 44)
 2, some (41, false)⟩, [44, 42, 43, 41, 40, 39, 33, 32, 31, 29, 30, 38, 37, 36, 34, 35, 28, 27, 21, 20, 19, 17, 18, 26, 25, 24, 22, 23]⟩, ⟨⟨some 46, .load 3 (.tmp 45), some (41, false)⟩, [45, 44, 42,
 43, 41, 40, 39, 33, 32, 31, 29, 30, 38, 37, 36, 34, 35, 28, 27, 21, 20, 19, 17, 18, 26, 25, 24, 22, 23]⟩, ⟨⟨some 47, .move (.tmp 1), some (41, false)⟩, [41, 40, 39, 33, 32, 31, 29, 30, 38, 37, 36, 34,
 35, 28, 27, 21, 20, 19, 17, 18, 26, 25, 24, 22, 23]⟩, ⟨⟨some 48, .move (.tmp 5), some (41, false)⟩, [41, 40, 39, 33, 32, 31, 29, 30, 38, 37, 36, 34, 35, 28, 27, 21, 20, 19, 17, 18, 26, 25, 24, 22,
 23]⟩, ⟨⟨some 49, .indexAddr 34 (.tmp 47) (.tmp 48), some (41, false)⟩, [47, 48, 41, 40, 39, 33, 32, 31, 29, 30, 38, 37, 36, 34, 35, 28, 27, 21, 20, 19, 17, 18, 26, 25, 24, 22, 23]⟩, ⟨⟨some 50,
 .fieldAddr 88 (.tmp 49) 2, some (41, false)⟩, [49, 47, 48, 41, 40, 39, 33, 32, 31, 29, 30, 38, 37, 36, 34, 35, 28, 27, 21, 20, 19, 17, 18, 26, 25, 24, 22, 23]⟩, ⟨⟨some 51, .load 3 (.tmp 50), some (41,
 false)⟩, [50, 49, 47, 48, 41, 40, 39, 33, 32, 31, 29, 30, 38, 37, 36, 34, 35, 28, 27, 21, 20, 19, 17, 18, 26, 25, 24, 22, 23]⟩, ⟨⟨some 52, .binOp .neq 3 (.tmp 46) (.tmp 51) 3, some (41, false)⟩, [46,
 45, 44, 42, 43, 51, 50, 49, 47, 48, 41, 40, 39, 33, 32, 31, 29, 30, 38, 37, 36, 34, 35, 28, 27, 21, 20, 19, 17, 18, 26, 25, 24, 22, 23]⟩, ⟨⟨some 53, .pick (.tmp 41) (.const (.bool true)) (.tmp 52),
 none⟩, [52, 46, 45, 44, 42, 43, 51, 50, 49, 47, 48, 41, 40, 39, 33, 32, 31, 29, 30, 38, 37, 36, 34, 35, 28, 27, 21, 20, 19, 17, 18, 26, 25, 24, 22, 23]⟩, ⟨⟨some 54, .move (.tmp 53), none⟩, [53, 52, 46,
 45, 44, 42, 43, 51, 50, 49, 47, 48, 41, 40, 39, 33, 32, 31, 29, 30, 38, 37, 36, 34, 35, 28, 27, 21, 20, 19, 17, 18, 26, 25, 24, 22, 23]⟩, ⟨⟨some 55, .move (.tmp 0), some (54, false)⟩, [54, 53, 52, 46,
 45, 44, 42, 43, 51, 50, 49, 47, 48, 41, 40, 39, 33, 32, 31, 29, 30, 38, 37, 36, 34, 35, 28, 27, 21, 20, 19, 17, 18, 26, 25, 24, 22, 23]⟩, ⟨⟨some 56, .move (.tmp 5), some (54, false)⟩, [54, 53, 52, 46,
 45, 44, 42, 43, 51, 50, 49, 47, 48, 41, 40, 39, 33, 32, 31, 29, 30, 38, 37, 36, 34, 35, 28, 27, 21, 20, 19, 17, 18, 26, 25, 24, 22, 23]⟩, ⟨⟨some 57, .indexAddr 34 (.tmp 55) (.tmp 56), some (54,
 false)⟩, [55, 56, 54, 53, 52, 46, 45, 44, 42, 43, 51, 50, 49, 47, 48, 41, 40, 39, 33, 32, 31, 29, 30, 38, 37, 36, 34, 35, 28, 27, 21, 20, 19, 17, 18, 26, 25, 24, 22, 23]⟩, ⟨⟨some 58, .fieldAddr 88
 (.tmp 57) 3, some (54, false)⟩, [57, 55, 56, 54, 53, 52, 46, 45, 44, 42, 43, 51, 50, 49, 47, 48, 41, 40, 39, 33, 32, 31, 29, 30, 38, 37, 36, 34, 35, 28, 27, 21, 20, 19, 17, 18, 26, 25, 24, 22, 23]⟩,
 ⟨⟨some 59, .load 3 (.tmp 58), some (54, false)⟩, [58, 57, 55, 56, 54, 53, 52, 46, 45, 44, 42, 43, 51, 50, 49, 47, 48, 41, 40, 39, 33, 32, 31, 29, 30, 38, 37, 36, 34, 35, 28, 27, 21, 20, 19, 17, 18, 26,
 25, 24, 22, 23]⟩, ⟨⟨some 60, .move (.tmp 1), some (54, false)⟩, [54, 53, 52, 46, 45, 44, 42, 43, 51, 50, 49, 47, 48, 41, 40, 39, 33, 32, 31, 29, 30, 38, 37, 36, 34, 35, 28, 27, 21, 20, 19, 17, 18, 26,
 25, 24, 22, 23]⟩, ⟨⟨some 61, .move (.tmp 5), some (54, false)⟩, [54, 53, 52, 46, 45, 44, 42, 43, 51, 50, 49, 47, 48, 41, 40, 39, 33, 32, 31, 29, 30, 38, 37, 36, 34, 35, 28, 27, 21, 20, 19, 17, 18, 26,
 25, 24, 22, 23]⟩, ⟨⟨some 62, .indexAddr 34 (.tmp 60) (.tmp 61), some (54, false)⟩, [60, 61, 54, 53, 52, 46, 45, 44, 42, 43, 51, 50, 49, 47, 48, 41, 40, 39, 33, 32, 31, 29, 30, 38, 37, 36, 34, 35, 28,
 27, 21, 20, 19, 17, 18, 26, 25, 24, 22, 23]⟩, ⟨⟨some 63, .fieldAddr 88 (.tmp 62) 3, some (54, false)⟩, [62, 60, 61, 54, 53, 52, 46, 45, 44, 42, 43, 51, 50, 49, 47, 48, 41, 40, 39, 33, 32, 31, 29, 30,
 38, 37, 36, 34, 35, 28, 27, 21, 20, 19, 17, 18, 26, 25, 24, 22, 23]⟩, ⟨⟨some 64, .load 3 (.tmp 63), some (54, false)⟩, [63, 62, 60, 61, 54, 53, 52, 46, 45, 44, 42, 43, 51, 50, 49, 47, 48, 41, 40, 39,
 33, 32, 31, 29, 30, 38, 37, 36, 34, 35, 28, 27, 21, 20, 19, 17, 18, 26, 25, 24, 22, 23]⟩, ⟨⟨some 65, .binOp .neq 3 (.tmp 59) (.tmp 64) 3, some (54, false)⟩, [59, 58, 57, 55, 56, 64, 63, 62, 60, 61, 54,
 53, 52, 46, 45, 44, 42, 43, 51, 50, 49, 47, 48, 41, 40, 39, 33, 32, 31, 29, 30, 38, 37, 36, 34, 35, 28, 27, 21, 20, 19, 17, 18, 26, 25, 24, 22, 23]⟩, ⟨⟨some 66, .pick (.tmp 54) (.const (.bool true))
 (.tmp 65), none⟩, [65, 59, 58, 57, 55, 56, 64, 63, 62, 60, 61, 54, 53, 52, 46, 45, 44, 42, 43, 51, 50, 49, 47, 48, 41, 40, 39, 33, 32, 31, 29, 30, 38, 37, 36, 34, 35, 28, 27, 21, 20, 19, 17, 18, 26,
 25, 24, 22, 23]⟩] [] ⟨17, 66, []⟩ ⟨17, 65, []⟩ []) (.cond (.tmp 66) (.seq (.reg [⟨some 4, .assign (.const (.bool false)), none⟩] ⟨1, 0, []⟩ []) .ret) .skip))) (.reg [⟨some 15, .move (.tmp 5), none⟩,
 ⟨some 16, .binOp .add 3 (.tmp 15) (.const (.int .i64 1)) 3, none⟩, ⟨some 5, .assign (.tmp 16), none⟩] ⟨15, 16, []⟩ [])))))) (.seq (.reg [⟨some 4, .assign (.const (.bool true)), none⟩] ⟨1, 0, []⟩ [])
 .ret)))
theorem z13 : FnF Tryz.prog Tryz.f13 67 c13 [.tmp 4] := ⟨by kernel_rfl, by kernel_rfl, by kernel_rfl, by kernel_rfl, by decide⟩
def c14 : AC :=
 .seq (.reg [⟨some 4, .assign (.const (.slice none 0 0)), none⟩] ⟨1, 0, []⟩ []) (.seq (.reg [⟨some 5, .assign (.const (.slice none 0 0)), none⟩] ⟨1, 0, []⟩ []) (.seq (.seq (.reg [⟨some 8, .move (.tmp
 0), none⟩, ⟨some 9, .call ⟨.builtin .len, #[.tmp 8], #[28]⟩, none⟩, ⟨some 10, .move (.const (.int .i64 0)), none⟩] ⟨1, 0, []⟩ []) (.block 0 (.loop (.seq (.reg [⟨some 11, .binOp .lss 3 (.tmp 10) (.tmp
 9) 3, none⟩] ⟨1, 0, []⟩ []) (.seq (.cond (.tmp 11) .skip (.exit 0)) (.seq (.block 1 (.seq (.reg [⟨some 12, .indexAddr 28 (.tmp 8) (.tmp 10), none⟩, ⟨some 13, .load 52 (.tmp 12), none⟩, ⟨some 7, .alloc
 52, none⟩, ⟨none, .store 52 (.tmp 7) (.tmp 13), none⟩] ⟨12, 13, []⟩ []) (.seq (.seq (.reg [⟨some 14, .fieldAddr 52 (.tmp 7) 0, none⟩, ⟨some 15, .load 3 (.tmp 14), none⟩, ⟨some 16, .move (.tmp 1),
 none⟩, ⟨some 17, .binOp .eql 3 (.tmp 15) (.tmp 16) 3, none⟩] ⟨14, 16, []⟩ []) (.cond (.tmp 17) (.reg [⟨some 18, .move (.tmp 5), none⟩, ⟨some 19, .move (.tmp 1), none⟩, ⟨some 20, .fieldAddr 52 (.tmp 7)
 1, none⟩, ⟨some 21, .load 3 (.tmp 20), none⟩, ⟨some 22, .fieldAddr 52 (.tmp 7) 2, none⟩, ⟨some 23, .load 3 (.tmp 22), none⟩, ⟨some 24, .build 88 #[(0, .tmp 19), (1, .const (.bool true)), (2, .tmp 21),
 (3, .tmp 23)], none⟩, ⟨some 25, .buildSlice 34 1 #[(0, .tmp 24)], none⟩, ⟨some 26, .call ⟨.builtin .append, #[.tmp 18, .tmp 25], #[34, 34]⟩, none⟩, ⟨some 5, .assign (.tmp 26), none⟩] ⟨18, 26, []⟩ [])
 .skip)) (.seq (.reg [⟨some 27, .fieldAddr 52 (.tmp 7) 1, none⟩, ⟨some 28, .load 3 (.tmp 27), none⟩, ⟨some 29, .move (.tmp 1), none⟩, ⟨some 30, .binOp .eql 3 (.tmp 28) (.tmp 29) 3, none⟩] ⟨27, 29, []⟩
 []) (.cond (.tmp 30) (.reg [⟨some 31, .move (.tmp 5), none⟩, ⟨some 32, .move (.tmp 1), none⟩, ⟨some 33, .fieldAddr 52 (.tmp 7) 0, none⟩, ⟨some 34, .load 3 (.tmp 33), none⟩, ⟨some 35, .fieldAddr 52
 (.tmp 7) 2, none⟩, ⟨some 36, .load 3 (.tmp 35), none⟩, ⟨some 37, .build 88 #[(0, .tmp 32), (2, .tmp 34), (3, .tmp 36)], none⟩, ⟨some 38, .buildSlice 34 1 #[(0, .tmp 37)], none⟩, ⟨some 39, .call
 ⟨.builtin .append, #[.tmp 31, .tmp 38], #[34, 34]⟩, none⟩, ⟨some 5, .assign (.tmp 39), none⟩] ⟨31, 39, []⟩ []) .skip))))) (.reg [⟨some 40, .binOp .add 3 (.tmp 10) (.const (.int .i64 1)) 3, none⟩, ⟨some
 10, .move (.tmp 40), none⟩] ⟨40, 40, []⟩ []))))))) (.seq (.reg [⟨some 41, .move (.tmp 5), none⟩, ⟨some 4, .assign (.tmp 41), none⟩] ⟨41, 41, []⟩ []) .ret)))
theorem z14 : FnF Tryz.prog Tryz.f14 42 c14 [.tmp 4] := ⟨by kernel_rfl, by kernel_rfl, by kernel_rfl, by kernel_rfl, by decide⟩
def c15 : AC :=
 .seq (.reg [⟨some 4, .assign (.const (.slice none 0 0)), none⟩] ⟨1, 0, []⟩ []) (.seq (.reg [⟨some 5, .assign (.const (.slice none 0 0)), none⟩] ⟨1, 0, []⟩ []) (.seq (.seq (.reg [⟨some 6, .assign
 (.const (.int .i64 0)), none⟩] ⟨1, 0, []⟩ []) (.block 0 (.loop (.seq (.seq (.reg [⟨some 8, .move (.tmp 6), none⟩, ⟨some 9, .move (.tmp 0), none⟩, ⟨some 10, .call ⟨.builtin .len, #[.tmp 9], #[28]⟩,
 none⟩, ⟨some 11, .binOp .lss 3 (.tmp 8) (.tmp 10) 3, none⟩] ⟨8, 10, []⟩ []) (.cond (.tmp 11) .skip (.exit 0))) (.seq (.block 1 (.seq (.reg [⟨some 14, .move (.tmp 0), none⟩, ⟨some 15, .move (.tmp 6),
 none⟩, ⟨some 16, .indexAddr 28 (.tmp 14) (.tmp 15), none⟩, ⟨some 17, .load 52 (.tmp 16), none⟩, ⟨some 7, .alloc 52, none⟩, ⟨none, .store 52 (.tmp 7) (.tmp 17), none⟩] ⟨14, 17, []⟩ []) (.seq (.seq (.reg
 [⟨some 18, .fieldAddr 52 (.tmp 7) 0, none⟩, ⟨some 19, .load 3 (.tmp 18), none⟩, ⟨some 20, .move (.tmp 1), none⟩, ⟨some 21, .binOp .eql 3 (.tmp 19) (.tmp 20) 3, none⟩] ⟨18, 20, []⟩ []) (.cond (.tmp 21)
 (.reg [⟨some 22, .move (.tmp 5), none⟩, ⟨some 23, .move (.tmp 1), none⟩, ⟨some 24, .fieldAddr 52 (.tmp 7) 1, none⟩, ⟨some 25, .load 3 (.tmp 24), none⟩, ⟨some 26, .fieldAddr 52 (.tmp 7) 2, none⟩, ⟨some
 27, .load 3 (.tmp 26), none⟩, ⟨some 28, .build 88 #[(0, .tmp 23), (1, .const (.bool true)), (2, .tmp 25), (3, .tmp 27)], none⟩, ⟨some 29, .buildSlice 34 1 #[(0, .tmp 28)], none⟩, ⟨some 30, .call
 ⟨.builtin .append, #[.tmp 22, .tmp 29], #[34, 34]⟩, none⟩, ⟨some 5, .assign (.tmp 30), none⟩] ⟨22, 30, []⟩ []) .skip)) (.seq (.reg [⟨some 31, .fieldAddr 52 (.tmp 7) 1, none⟩, ⟨some 32, .load 3 (.tmp
 31), none⟩, ⟨some 33, .move (.tmp 1), none⟩, ⟨some 34, .binOp .eql 3 (.tmp 32) (.tmp 33) 3, none⟩] ⟨31, 33, []⟩ []) (.cond (.tmp 34) (.reg [⟨some 35, .move (.tmp 5), none⟩, ⟨some 36, .move (.tmp 1),
 none⟩, ⟨some 37, .fieldAddr 52 (.tmp 7) 0, none⟩, ⟨some 38, .load 3 (.tmp 37), none⟩, ⟨some 39, .fieldAddr 52 (.tmp 7) 2, none⟩, ⟨some 40, .load 3 (.tmp 39), none⟩, ⟨some 41, .build 88 #[(0, .tmp 36),
 (2, .tmp 38), (3, .tmp 40)], none⟩, ⟨some 42, .buildSlice 34 1 #[(0, .tmp 41)], none⟩, ⟨some 43, .call ⟨.builtin .append, #[.tmp 35, .tmp 42], #[34, 34]⟩, none⟩, ⟨some 5, .assign (.tmp 43), none⟩] ⟨35,
 43, []⟩ []) .skip))))) (.reg [⟨some 12, .move (.tmp 6), none⟩, ⟨some 13, .binOp .add 3 (.tmp 12) (.const (.int .i64 1)) 3, none⟩, ⟨some 6, .assign (.tmp 13), none⟩] ⟨12, 13, []⟩ [])))))) (.seq (.reg
 [⟨some 44, .move (.tmp 5), none⟩, ⟨some 4, .assign (.tmp 44), none⟩] ⟨44, 44, []⟩ []) .ret)))
theorem z15 : FnF Tryz.prog Tryz.f15 45 c15 [.tmp 4] := ⟨by kernel_rfl, by kernel_rfl, by kernel_rfl, by kernel_rfl, by decide⟩
def c26 : AC :=
 .seq (.reg [⟨some 1, .box 27 (.tmp 0), none⟩, ⟨some 2, .assign (.const (.bool false)), none⟩] ⟨1, 0, []⟩ []) (.seq (.reg [⟨some 3, .load 27 (.tmp 1), none⟩, ⟨some 4, .call ⟨.value (.func 58), #[.tmp
 3], #[27]⟩, none⟩, ⟨some 5, .move (.tmp 4), none⟩, ⟨some 6, .load 27 (.tmp 1), some (5, true)⟩, ⟨some 7, .call ⟨.value (.func 59), #[.tmp 6], #[27]⟩, some (5, true)⟩, ⟨some 8, .pick (.tmp 5) (.tmp 7)
 (.const (.bool false)), none⟩, ⟨some 9, .move (.tmp 8), none⟩, ⟨some 10, .load 27 (.tmp 1), some (9, true)⟩, ⟨some 11, .call ⟨.value (.func 60), #[.tmp 10], #[27]⟩, some (9, true)⟩, ⟨some 12, .pick
 (.tmp 9) (.tmp 11) (.const (.bool false)), none⟩, ⟨some 13, .move (.tmp 12), none⟩, ⟨some 14, .load 27 (.tmp 1), some (13, true)⟩, ⟨some 15, .call ⟨.value (.func 61), #[.tmp 14], #[27]⟩, some (13,
 true)⟩, ⟨some 16, .pick (.tmp 13) (.tmp 15) (.const (.bool false)), none⟩, ⟨some 17, .move (.tmp 16), none⟩, ⟨some 18, .load 27 (.tmp 1), some (17, true)⟩, ⟨some 19, .call ⟨.value (.func 62), #[.tmp
 18], #[27]⟩, some (17, true)⟩, ⟨some 20, .pick (.tmp 17) (.tmp 19) (.const (.bool false)), none⟩, ⟨some 2, .assign (.tmp 20), none⟩] ⟨3, 20, []⟩ []) .ret)
theorem z26 : FnF Tryz.prog Tryz.f26 21 c26 [.tmp 2] := ⟨by kernel_rfl, by kernel_rfl, by kernel_rfl, by kernel_rfl, by decide⟩
def c29 : AC :=
 .seq (.reg [⟨some 1, .box 27 (.tmp 0), none⟩, ⟨some 2, .assign (.const (.bool false)), none⟩] ⟨1, 0, []⟩ []) (.seq (.reg [⟨some 3, .load 27 (.tmp 1), none⟩, ⟨some 4, .call ⟨.value (.func 67), #[.tmp
 3], #[27]⟩, none⟩, ⟨some 5, .move (.tmp 4), none⟩, ⟨some 6, .load 27 (.tmp 1), some (5, true)⟩, ⟨some 7, .call ⟨.value (.func 68), #[.tmp 6], #[27]⟩, some (5, true)⟩, ⟨some 8, .pick (.tmp 5) (.tmp 7)
 (.const (.bool false)), none⟩, ⟨some 9, .move (.tmp 8), none⟩, ⟨some 10, .fieldAddr 27 (.tmp 1) 2, some (9, true)⟩, ⟨some 11, .load 23 (.tmp 10), some (9, true)⟩, ⟨some 12, .call ⟨.value (.func 69),
 #[.tmp 11], #[23]⟩, some (9, true)⟩, ⟨some 13, .pick (.tmp 9) (.tmp 12) (.const (.bool false)), none⟩, ⟨some 14, .move (.tmp 13), none⟩, ⟨some 15, .load 27 (.tmp 1), some (14, true)⟩, ⟨some 16, .call
 ⟨.value (.func 70), #[.tmp 15], #[27]⟩, some (14, true)⟩, ⟨some 17, .pick (.tmp 14) (.tmp 16) (.const (.bool false)), none⟩, ⟨some 18, .move (.tmp 17), none⟩, ⟨some 19, .load 27 (.tmp 1), some (18,
 true)⟩, ⟨some 20, .call ⟨.value (.func 71), #[.tmp 19], #[27]⟩, some (18, true)⟩, ⟨some 21, .pick (.tmp 18) (.tmp 20) (.const (.bool false)), none⟩, ⟨some 22, .move (.tmp 21), none⟩, ⟨some 23, .load 27
 (.tmp 1), some (22, true)⟩, ⟨some 24, .fieldAddr 27 (.tmp 1) 4, some (22, true)⟩, ⟨some 25, .load 3 (.tmp 24), some (22, true)⟩, ⟨some 26, .call ⟨.value (.func 73), #[.tmp 23, .tmp 25, .const (.bool
 false)], #[27, 3, 4]⟩, some (22, true)⟩, ⟨some 27, .call ⟨.value (.func 72), #[.tmp 26, .const (.int .i64 (-1))], #[37, 3]⟩, some (22, true)⟩, ⟨some 28, .unOp .not 4 (.tmp 27), some (22, true)⟩, ⟨some
 29, .pick (.tmp 22) (.tmp 28) (.const (.bool false)), none⟩, ⟨some 30, .move (.tmp 29), none⟩, ⟨some 31, .load 27 (.tmp 1), some (30, true)⟩, ⟨some 32, .fieldAddr 27 (.tmp 1) 5, some (30, true)⟩, ⟨some
 33, .load 3 (.tmp 32), some (30, true)⟩, ⟨some 34, .call ⟨.value (.func 73), #[.tmp 31, .tmp 33, .const (.bool true)], #[27, 3, 4]⟩, some (30, true)⟩, ⟨some 35, .call ⟨.value (.func 72), #[.tmp 34,
 .const (.int .i64 (-1))], #[37, 3]⟩, some (30, true)⟩, ⟨some 36, .unOp .not 4 (.tmp 35), some (30, true)⟩, ⟨some 37, .pick (.tmp 30) (.tmp 36) (.const (.bool false)), none⟩, ⟨some 2, .assign (.tmp 37),
 none⟩] ⟨3, 37, []⟩ []) .ret)
theorem z29 : FnF Tryz.prog Tryz.f29 38 c29 [.tmp 2] := ⟨by kernel_rfl, by kernel_rfl, by kernel_rfl, by kernel_rfl, by decide⟩
def c31 : AC :=
 .seq (.reg [⟨some 3, .box 27 (.tmp 0), none⟩, ⟨some 5, .box 52 (.tmp 2), none⟩, ⟨some 6, .assign (.const (.int .i64 0)), none⟩, ⟨some 7, .assign (.const (.bool false)), none⟩] ⟨1, 0, []⟩ []) (.seq
 (.seq (.reg [⟨some 10, .fieldAddr 27 (.tmp 3) 6, none⟩, ⟨some 11, .load 24 (.tmp 10), none⟩, ⟨some 12, .call ⟨.builtin .len, #[.tmp 11], #[24]⟩, none⟩, ⟨some 13, .move (.const (.int .i64 0)), none⟩]
 ⟨10, 10, []⟩ []) (.block 0 (.loop (.seq (.reg [⟨some 14, .binOp .lss 3 (.tmp 13) (.tmp 12) 3, none⟩] ⟨1, 0, []⟩ []) (.seq (.cond (.tmp 14) .skip (.exit 0)) (.seq (.block 1 (.seq (.reg [⟨some 15,
 .indexAddr 24 (.tmp 11) (.tmp 13), none⟩, ⟨some 16, .load 65 (.tmp 15), none⟩, ⟨some 9, .alloc 65, none⟩, ⟨none, .store 65 (.tmp 9) (.tmp 16), none⟩] ⟨15, 16, []⟩ []) (.seq (.reg [⟨some 17, .fieldAddr
 65 (.tmp 9) 0, none⟩, ⟨some 18, .load 3 (.tmp 17), none⟩, ⟨some 19, .move (.tmp 1), none⟩, ⟨some 20, .binOp .eql 3 (.tmp 18) (.tmp 19) 3, none⟩, ⟨some 21, .move (.tmp 20), none⟩, ⟨some 22, .fieldAddr
 65 (.tmp 9) 1, some (21, true)⟩, ⟨some 23, .load 52 (.tmp 22), some (21, true)⟩, ⟨some 24, .load 52 (.tmp 5), some (21, true)⟩, ⟨some 25, .binOp .eql 52 (.tmp 23) (.tmp 24) 52, some (21, true)⟩, ⟨some
 26, .pick (.tmp 21) (.tmp 25) (.const (.bool false)), none⟩] ⟨17, 25, []⟩ []) (.cond (.tmp 26) (.seq (.reg [⟨some 27, .fieldAddr 65 (.tmp 9) 2, none⟩, ⟨some 28, .load 3 (.tmp 27), none⟩, ⟨some 6,
 .assign (.tmp 28), none⟩, ⟨some 7, .assign (.const (.bool true)), none⟩] ⟨27, 28, []⟩ []) .ret) .skip)))) (.reg [⟨some 29, .binOp .add 3 (.tmp 13) (.const (.int .i64 1)) 3, none⟩, ⟨some 13, .move (.tmp
 29), none⟩] ⟨29, 29, []⟩ []))))))) (.seq (.reg [⟨some 6, .assign (.const (.int .i64 0)), none⟩, ⟨some 7, .assign (.const (.bool false)), none⟩] ⟨1, 0, []⟩ []) .ret))
theorem z31 : FnF Tryz.prog Tryz.f31 30 c31 [.tmp 6, .tmp 7] := ⟨by kernel_rfl, by kernel_rfl, by kernel_rfl, by kernel_rfl, by decide⟩
def c33 : AC :=
 .seq (.reg [⟨some 2, .assign (.const (.slice none 0 0)), none⟩] ⟨1, 0, []⟩ []) (.seq (.reg [⟨some 10, .move (.tmp 0), none⟩, ⟨some 11, .call ⟨.value (.func 74), #[.tmp 10], #[28]⟩, none⟩, ⟨some 3,
 .assign (.tmp 11), none⟩] ⟨10, 11, []⟩ []) (.seq (.reg [⟨some 4, .assign (.const (.slice none 0 0)), none⟩] ⟨1, 0, []⟩ []) (.seq (.block 0 (.loop (.seq (.seq (.reg [⟨some 12, .move (.tmp 3), none⟩,
 ⟨some 13, .call ⟨.builtin .len, #[.tmp 12], #[28]⟩, none⟩, ⟨some 14, .binOp .gtr 3 (.tmp 13) (.const (.int .i64 0)) 3, none⟩] ⟨12, 13, []⟩ []) (.cond (.tmp 14) .skip (.exit 0))) (.block 1 (.scp (.seq
 (.reg [⟨some 5, .assign (.const (.int .i64 0)), none⟩] ⟨1, 0, []⟩ []) (.seq .skip (.seq (.seq (.reg [⟨some 15, .move (.tmp 3), none⟩, ⟨some 16, .call ⟨.builtin .len, #[.tmp 15], #[28]⟩, none⟩, ⟨some
 17, .move (.const (.int .i64 0)), none⟩] ⟨1, 0, []⟩ []) (.block 2 (.loop (.seq (.reg [⟨some 18, .binOp .lss 3 (.tmp 17) (.tmp 16) 3, none⟩] ⟨1, 0, []⟩ []) (.seq (.cond (.tmp 18) .skip (.exit 2)) (.seq
 (.block 3 (.seq (.reg [⟨some 19, .move (.tmp 17), none⟩, ⟨some 20, .indexAddr 28 (.tmp 15) (.tmp 17), none⟩, ⟨some 21, .load 52 (.tmp 20), none⟩, ⟨some 7, .alloc 52, none⟩, ⟨some 6, .assign (.tmp 19),
 none⟩, ⟨none, .store 52 (.tmp 7) (.tmp 21), none⟩] ⟨19, 21, []⟩ []) (.seq (.seq (.reg [⟨some 22, .move (.tmp 3), none⟩, ⟨some 23, .move (.tmp 6), none⟩, ⟨some 24, .slice 28 (.tmp 22) none (some (.tmp
 23)) none, none⟩, ⟨some 25, .call ⟨.builtin .len, #[.tmp 24], #[28]⟩, none⟩, ⟨some 26, .move (.const (.int .i64 0)), none⟩] ⟨22, 23, []⟩ []) (.block 4 (.loop (.seq (.reg [⟨some 27, .binOp .lss 3 (.tmp
 26) (.tmp 25) 3, none⟩] ⟨1, 0, []⟩ []) (.seq (.cond (.tmp 27) .skip (.exit 4)) (.seq (.block 5 (.seq (.reg [⟨some 28, .indexAddr 28 (.tmp 24) (.tmp 26), none⟩, ⟨some 29, .load 52 (.tmp 28), none⟩,
 ⟨some 9, .alloc 52, none⟩, ⟨none, .store 52 (.tmp 9) (.tmp 29), none⟩] ⟨28, 29, []⟩ []) (.seq (.reg [⟨some 30, .load 52 (.tmp 7), none⟩, ⟨some 31, .load 52 (.tmp 9), none⟩, ⟨some 32, .call ⟨.value
 (.func 36), #[.tmp 30, .tmp 31], #[52, 52]⟩, none⟩, ⟨some 33, .unOp .not 4 (.tmp 32), none⟩] ⟨30, 32, []⟩ []) (.cond (.tmp 33) (.exit 3) .skip)))) (.reg [⟨some 34, .binOp .add 3 (.tmp 26) (.const (.int
 .i64 1)) 3, none⟩, ⟨some 26, .move (.tmp 34), none⟩] ⟨34, 34, []⟩ []))))))) (.seq (.drw [⟨⟨some 35, .load 52 (.tmp 7), none⟩, []⟩, ⟨⟨some 36, .move (.tmp 3), none⟩, []⟩, ⟨⟨some 37, .move (.tmp 5),
 none⟩, []⟩, ⟨⟨some 38, .indexAddr 28 (.tmp 36) (.tmp 37), none⟩, [36, 37]⟩, ⟨⟨some 39, .load 52 (.tmp 38), none⟩, [38, 36, 37]⟩, ⟨⟨some 40, .call ⟨.value (.func 75), #[.tmp 35, .tmp 39], #[52, 52]⟩,
 none⟩, [35, 39, 38, 36, 37]⟩, ⟨⟨some 41, .binOp .lss 3 (.tmp 40) (.const (.int .i64 0)) 3, none⟩, [40, 35, 39, 38, 36, 37]⟩] [] ⟨35, 41, []⟩ ⟨35, 40, []⟩ []) (.cond (.tmp 41) (.reg [⟨some 42, .move
 (.tmp 6), none⟩, ⟨some 5, .assign (.tmp 42), none⟩] ⟨42, 42, []⟩ []) .skip))))) (.reg [⟨some 43, .binOp .add 3 (.tmp 17) (.const (.int .i64 1)) 3, none⟩, ⟨some 17, .move (.tmp 43), none⟩] ⟨43, 43, []⟩
 []))))))) (.seq (.reg [⟨some 44, .move (.tmp 4), none⟩, ⟨some 45, .move (.tmp 3), none⟩, ⟨some 46, .move (.tmp 5), none⟩, ⟨some 47, .indexAddr 28 (.tmp 45) (.tmp 46), none⟩, ⟨some 48, .load 52 (.tmp
 47), none⟩, ⟨some 49, .buildSlice 28 1 #[(0, .tmp 48)], none⟩, ⟨some 50, .call ⟨.builtin .append, #[.tmp 44, .tmp 49], #[28, 28]⟩, none⟩, ⟨some 4, .assign (.tmp 50), none⟩] ⟨44, 50, []⟩ []) (.reg
 [⟨some 51, .move (.tmp 3), none⟩, ⟨some 52, .move (.tmp 5), none⟩, ⟨some 53, .move (.tmp 5), none⟩, ⟨some 54, .binOp .add 3 (.tmp 53) (.const (.int .i64 1)) 3, none⟩, ⟨some 55, .call ⟨.value (.func
 76), #[.tmp 51, .tmp 52, .tmp 54], #[28, 3, 3]⟩, none⟩, ⟨some 3, .assign (.tmp 55), none⟩] ⟨51, 55, []⟩ [])))))))))) (.seq (.reg [⟨some 56, .move (.tmp 4), none⟩, ⟨some 2, .assign (.tmp 56), none⟩]
 ⟨56, 56, []⟩ []) .ret))))
theorem z33 : FnF Tryz.prog Tryz.f33 57 c33 [.tmp 2] := ⟨by kernel_rfl, by kernel_rfl, by kernel_rfl, by kernel_rfl, by decide⟩
def c34 : AC :=
 .seq (.reg [⟨some 2, .assign (.const (.slice none 0 0)), none⟩, ⟨some 3, .assign (.const (.bool false)), none⟩] ⟨1, 0, []⟩ []) (.seq (.seq (.reg [⟨some 16, .move (.tmp 0), none⟩, ⟨some 17, .call
 ⟨.value (.func 77), #[.tmp 16], #[81]⟩, none⟩, ⟨some 18, .unOp .not 4 (.tmp 17), none⟩] ⟨16, 17, []⟩ []) (.cond (.tmp 18) (.seq (.reg [⟨some 2, .assign (.const (.slice none 0 0)), none⟩, ⟨some 3,
 .assign (.const (.bool false)), none⟩] ⟨1, 0, []⟩ []) .ret) .skip)) (.seq (.reg [⟨some 19, .move (.tmp 0), none⟩, ⟨some 20, .call ⟨.value (.func 78), #[.tmp 19], #[81]⟩, none⟩, ⟨some 4, .assign (.tmp
 20), none⟩] ⟨19, 20, []⟩ []) (.seq (.reg [⟨some 5, .assign (.const (.int .i64 0)), none⟩] ⟨1, 0, []⟩ []) (.seq (.seq (.reg [⟨some 21, .move (.tmp 4), none⟩, ⟨some 22, .call ⟨.builtin .len, #[.tmp 21],
 #[81]⟩, none⟩, ⟨some 23, .move (.const (.int .i64 0)), none⟩] ⟨1, 0, []⟩ []) (.block 0 (.loop (.seq (.reg [⟨some 24, .binOp .lss 3 (.tmp 23) (.tmp 22) 3, none⟩] ⟨1, 0, []⟩ []) (.seq (.cond (.tmp 24)
 .skip (.exit 0)) (.seq (.block 1 (.seq (.reg [⟨some 25, .indexAddr 81 (.tmp 21) (.tmp 23), none⟩, ⟨some 26, .load 34 (.tmp 25), none⟩, ⟨some 7, .assign (.tmp 26), none⟩] ⟨25, 26, []⟩ []) (.reg [⟨some
 27, .move (.tmp 5), none⟩, ⟨some 28, .move (.tmp 7), none⟩, ⟨some 29, .call ⟨.builtin .len, #[.tmp 28], #[34]⟩, none⟩, ⟨some 30, .binOp .add 3 (.tmp 27) (.tmp 29) 3, none⟩, ⟨some 5, .assign (.tmp 30),
 none⟩] ⟨27, 30, []⟩ []))) (.reg [⟨some 31, .binOp .add 3 (.tmp 23) (.const (.int .i64 1)) 3, none⟩, ⟨some 23, .move (.tmp 31), none⟩] ⟨31, 31, []⟩ []))))))) (.seq (.reg [⟨some 8, .assign (.const
 (.slice none 0 0)), none⟩] ⟨1, 0, []⟩ []) (.seq (.block 2 (.loop (.seq (.seq (.reg [⟨some 32, .move (.tmp 5), none⟩, ⟨some 33, .binOp .gtr 3 (.tmp 32) (.const (.int .i64 0)) 3, none⟩] ⟨32, 32, []⟩ [])
 (.cond (.tmp 33) .skip (.exit 2))) (.seq (.block 3 (.seq (.reg [⟨some 36, .build 52 #[], none⟩, ⟨some 9, .alloc 52, none⟩, ⟨none, .store 52 (.tmp 9) (.tmp 36), none⟩, ⟨some 10, .assign (.const (.bool
 false)), none⟩] ⟨36, 36, []⟩ []) (.seq (.seq (.reg [⟨some 37, .move (.tmp 4), none⟩, ⟨some 38, .call ⟨.builtin .len, #[.tmp 37], #[81]⟩, none⟩, ⟨some 39, .move (.const (.int .i64 0)), none⟩] ⟨1, 0, []⟩
 []) (.block 4 (.loop (.seq (.reg [⟨some 40, .binOp .lss 3 (.tmp 39) (.tmp 38) 3, none⟩] ⟨1, 0, []⟩ []) (.seq (.cond (.tmp 40) .skip (.exit 4)) (.seq (.block 5 (.seq (.reg [⟨some 41, .indexAddr 81 (.tmp
 37) (.tmp 39), none⟩, ⟨some 42, .load 34 (.tmp 41), none⟩, ⟨some 12, .assign (.tmp 42), none⟩] ⟨41, 42, []⟩ []) (.seq (.seq (.reg [⟨some 43, .move (.tmp 12), none⟩, ⟨some 44, .call ⟨.builtin .len,
 #[.tmp 43], #[34]⟩, none⟩, ⟨some 45, .binOp .eql 3 (.tmp 44) (.const (.int .i64 0)) 3, none⟩, ⟨some 46, .move (.tmp 45), none⟩, ⟨some 47, .move (.tmp 12), some (46, false)⟩, ⟨some 48, .indexAddr 34
 (.tmp 47) (.const (.int .i64 0)), some (46, false)⟩, ⟨some 49, .fieldAddr 88 (.tmp 48) 1, some (46, false)⟩, ⟨some 50, .load 4 (.tmp 49), some (46, false)⟩, ⟨some 51, .unOp .not 4 (.tmp 50), some (46,
 false)⟩, ⟨some 52, .pick (.tmp 46) (.const (.bool true)) (.tmp 51), none⟩, ⟨some 53, .move (.tmp 52), none⟩, ⟨some 54, .move (.tmp 4), some (53, false)⟩, ⟨some 55, .move (.tmp 12), some (53, false)⟩,
 ⟨some 56, .indexAddr 34 (.tmp 55) (.const (.int .i64 0)), some (53, false)⟩, ⟨some 57, .fieldAddr 88 (.tmp 56) 2, some (53, false)⟩, ⟨some 58, .load 3 (.tmp 57), some (53, false)⟩, ⟨some 59, .indexAddr
 81 (.tmp 54) (.tmp 58), some (53, false)⟩, ⟨some 60, .load 34 (.tmp 59), some (53, false)⟩, ⟨some 61, .call ⟨.builtin .len, #[.tmp 60], #[34]⟩, some (53, false)⟩, ⟨some 62, .binOp .eql 3 (.tmp 61)
 (.const (.int .i64 0)) 3, some (53, false)⟩, ⟨some 63, .pick (.tmp 53) (.const (.bool true)) (.tmp 62), none⟩] ⟨43, 62, []⟩ []) (.cond (.tmp 63) (.exit 5) .skip)) (.seq (.drw [⟨⟨some 64, .move (.tmp
 12), none⟩, []⟩, ⟨⟨some 65, .indexAddr 34 (.tmp 64) (.const (.int .i64 0)), none⟩, [64]⟩, ⟨⟨some 66, .load 88 (.tmp 65), none⟩, [65, 64]⟩, ⟨⟨some 67, .move (.tmp 4), none⟩, []⟩, ⟨⟨some 68, .move (.tmp
 12), none⟩, []⟩, ⟨⟨some 69, .indexAddr 34 (.tmp 68) (.const (.int .i64 0)), none⟩, [68]⟩, ⟨⟨some 70, .fieldAddr 88 (.tmp 69) 2, none⟩, [69, 68]⟩, ⟨⟨some 71, .load 3 (.tmp 70), none⟩, [70, 69, 68]⟩,
 ⟨⟨some 72, .indexAddr 81 (.tmp 67) (.tmp 71), none⟩, [67, 71, 70, 69, 68]⟩, ⟨⟨some 73, .load 34 (.tmp 72), none⟩, [72, 67, 71, 70, 69, 68]⟩, ⟨⟨some 74, .indexAddr 34 (.tmp 73) (.const (.int .i64 0)),
 none⟩, [73, 72, 67, 71, 70, 69, 68]⟩, ⟨⟨some 75, .load 88 (.tmp 74), none⟩, [74, 73, 72, 67, 71, 70, 69, 68]⟩, ⟨⟨some 13, .alloc 88, none⟩, []⟩, ⟨⟨some 14, .alloc 88, none⟩, []⟩] [⟨⟨none, .store 88
 (.tmp 13) (.tmp 66), none⟩, [13, 66, 65, 64], [false, false, false, true, true, true, true, true, true, true, true, true, false, false]⟩, ⟨⟨none, .store 88 (.tmp 14) (.tmp 75), none⟩, [14, 75, 74, 73,
 72, 67, 71, 70, 69, 68], []⟩] ⟨64, 75, [13, 14]⟩ ⟨64, 75, []⟩ []) (.seq (.seq (.reg [⟨some 76, .fieldAddr 88 (.tmp 14) 1, none⟩, ⟨some 77, .load 4 (.tmp 76), none⟩, ⟨some 78, .move (.tmp 77), none⟩,
 ⟨some 79, .fieldAddr 88 (.tmp 14) 2, some (78, false)⟩, ⟨some 80, .load 3 (.tmp 79), some (78, false)⟩, ⟨some 81, .fieldAddr 88 (.tmp 13) 0, some (78, false)⟩, ⟨some 82, .load 3 (.tmp 81), some (78,
 false)⟩, ⟨some 83, .binOp .neq 3 (.tmp 80) (.tmp 82) 3, some (78, false)⟩, ⟨some 84, .pick (.tmp 78) (.const (.bool true)) (.tmp 83), none⟩, ⟨some 85, .move (.tmp 84), none⟩, ⟨some 86, .fieldAddr 88
 (.tmp 14) 3, some (85, false)⟩, ⟨some 87, .load 3 (.tmp 86), some (85, false)⟩, ⟨some 88, .fieldAddr 88 (.tmp 13) 3, some (85, false)⟩, ⟨some 89, .load 3 (.tmp 88), some (85, false)⟩, ⟨some 90, .binOp
 .neq 3 (.tmp 87) (.tmp 89) 3, some (85, false)⟩, ⟨some 91, .pick (.tmp 85) (.const (.bool true)) (.tmp 90), none⟩] ⟨76, 90, []⟩ []) (.cond (.tmp 91) (.exit 5) .skip)) (.seq (.reg [⟨some 92, .fieldAddr
 88 (.tmp 13) 0, none⟩, ⟨some 93, .load 3 (.tmp 92), none⟩, ⟨some 94, .fieldAddr 88 (.tmp 13) 2, none⟩, ⟨some 95, .load 3 (.tmp 94), none⟩, ⟨some 96, .fieldAddr 88 (.tmp 13) 3, none⟩, ⟨some 97, .load 3
 (.tmp 96), none⟩, ⟨some 98, .build 52 #[(0, .tmp 93), (1, .tmp 95), (2, .tmp 97)], none⟩, ⟨some 15, .alloc 52, none⟩, ⟨none, .store 52 (.tmp 15) (.tmp 98), none⟩] ⟨92, 98, []⟩ []) (.seq (.reg [⟨some
 99, .move (.tmp 10), none⟩, ⟨some 100, .unOp .not 4 (.tmp 99), none⟩, ⟨some 101, .move (.tmp 100), none⟩, ⟨some 102, .load 52 (.tmp 15), some (101, false)⟩, ⟨some 103, .load 52 (.tmp 9), some (101,
 false)⟩, ⟨some 104, .call ⟨.value (.func 75), #[.tmp 102, .tmp 103], #[52, 52]⟩, some (101, false)⟩, ⟨some 105, .binOp .lss 3 (.tmp 104) (.const (.int .i64 0)) 3, some (101, false)⟩, ⟨some 106, .pick
 (.tmp 101) (.const (.bool true)) (.tmp 105), none⟩] ⟨99, 105, []⟩ []) (.cond (.tmp 106) (.reg [⟨some 107, .load 52 (.tmp 15), none⟩, ⟨none, .store 52 (.tmp 9) (.tmp 107), none⟩, ⟨some 10, .assign
 (.const (.bool true)), none⟩] ⟨107, 107, []⟩ []) .skip)))))))) (.reg [⟨some 108, .binOp .add 3 (.tmp 39) (.const (.int .i64 1)) 3, none⟩, ⟨some 39, .move (.tmp 108), none⟩] ⟨108, 108, []⟩ [])))))))
 (.seq (.seq (.reg [⟨some 109, .move (.tmp 10), none⟩, ⟨some 110, .unOp .not 4 (.tmp 109), none⟩] ⟨109, 109, []⟩ []) (.cond (.tmp 110) (.seq (.reg [⟨some 2, .assign (.const (.slice none 0 0)), none⟩,
 ⟨some 3, .assign (.const (.bool false)), none⟩] ⟨1, 0, []⟩ []) .ret) .skip)) (.seq (.reg [⟨some 111, .move (.tmp 8), none⟩, ⟨some 112, .load 52 (.tmp 9), none⟩, ⟨some 113, .buildSlice 28 1 #[(0, .tmp
 112)], none⟩, ⟨some 114, .call ⟨.builtin .append, #[.tmp 111, .tmp 113], #[28, 28]⟩, none⟩, ⟨some 8, .assign (.tmp 114), none⟩] ⟨111, 114, []⟩ []) (.drw [⟨⟨some 115, .move (.tmp 4), none⟩, []⟩, ⟨⟨some
 116, .fieldAddr 52 (.tmp 9) 0, none⟩, []⟩, ⟨⟨some 117, .load 3 (.tmp 116), none⟩, [116]⟩, ⟨⟨some 118, .move (.tmp 4), none⟩, []⟩, ⟨⟨some 119, .fieldAddr 52 (.tmp 9) 1, none⟩, []⟩, ⟨⟨some 120, .load 3
 (.tmp 119), none⟩, [119]⟩, ⟨⟨some 121, .move (.tmp 4), none⟩, []⟩, ⟨⟨some 122, .fieldAddr 52 (.tmp 9) 0, none⟩, []⟩, ⟨⟨some 123, .load 3 (.tmp 122), none⟩, [122]⟩, ⟨⟨some 124, .indexAddr 81 (.tmp 121)
 (.tmp 123), none⟩, [121, 123, 122]⟩, ⟨⟨some 125, .load 34 (.tmp 124), none⟩, [124, 121, 123, 122]⟩, ⟨⟨some 126, .slice 34 (.tmp 125) (some (.const (.int .i64 1))) none none, none⟩, [125, 124, 121, 123,
 122]⟩, ⟨⟨some 127, .move (.tmp 4), none⟩, []⟩, ⟨⟨some 128, .fieldAddr 52 (.tmp 9) 1, none⟩, []⟩, ⟨⟨some 129, .load 3 (.tmp 128), none⟩, [128]⟩, ⟨⟨some 130, .indexAddr 81 (.tmp 127) (.tmp 129), none⟩,
 [127, 129, 128]⟩, ⟨⟨some 131, .load 34 (.tmp 130), none⟩, [130, 127, 129, 128]⟩, ⟨⟨some 132, .slice 34 (.tmp 131) (some (.const (.int .i64 1))) none none, none⟩, [131, 130, 127, 129, 128]⟩, ⟨⟨some 133,
 .indexAddr 81 (.tmp 115) (.tmp 117), none⟩, [115, 117, 116]⟩] [⟨⟨none, .store 34 (.tmp 133) (.tmp 126), none⟩, [133, 115, 117, 116, 126, 125, 124, 121, 123, 122], [false, false, false, true, true,
 true, false, false, false, false, false, false, false, false, false, false, false, true, false]⟩, ⟨⟨some 134, .indexAddr 81 (.tmp 118) (.tmp 120), none⟩, [118, 120, 119], []⟩, ⟨⟨none, .store 34 (.tmp
 134) (.tmp 132), none⟩, [132, 131, 130, 127, 129, 128], []⟩] ⟨115, 133, []⟩ ⟨115, 134, []⟩ [])))))) (.reg [⟨some 34, .move (.tmp 5), none⟩, ⟨some 35, .binOp .sub 3 (.tmp 34) (.const (.int .i64 2)) 3,
 none⟩, ⟨some 5, .assign (.tmp 35), none⟩] ⟨34, 35, []⟩ []))))) (.seq (.reg [⟨some 135, .move (.tmp 8), none⟩, ⟨some 2, .assign (.tmp 135), none⟩, ⟨some 3, .assign (.const (.bool true)), none⟩] ⟨135,
 135, []⟩ []) .ret)))))))
theorem z34 : FnF Tryz.prog Tryz.f34 136 c34 [.tmp 2, .tmp 3] := ⟨by kernel_rfl, by kernel_rfl, by kernel_rfl, by kernel_rfl, by decide⟩
def c35 : AC :=
 .seq (.reg [⟨some 4, .assign (.const (.slice none 0 0)), none⟩] ⟨1, 0, []⟩ []) (.seq (.seq (.reg [⟨some 7, .move (.tmp 1), none⟩, ⟨some 8, .binOp .lss 3 (.tmp 7) (.const (.int .i64 0)) 3, none⟩, ⟨some
 9, .move (.tmp 8), none⟩, ⟨some 10, .move (.tmp 1), some (9, false)⟩, ⟨some 11, .binOp .gtr 3 (.tmp 10) (.const (.int .i64 6)) 3, some (9, false)⟩, ⟨some 12, .pick (.tmp 9) (.const (.bool true)) (.tmp
 11), none⟩] ⟨7, 11, []⟩ []) (.cond (.tmp 12) (.seq (.reg [⟨some 4, .assign (.const (.slice none 0 0)), none⟩] ⟨1, 0, []⟩ []) .ret) .skip)) (.seq (.reg [⟨some 13, .move (.tmp 1), none⟩, ⟨some 14,
 .makeSlice 81 (.tmp 13) (.tmp 13), none⟩, ⟨some 5, .assign (.tmp 14), none⟩] ⟨13, 14, []⟩ []) (.seq (.seq (.reg [⟨some 15, .move (.tmp 1), none⟩, ⟨some 16, .move (.const (.int .i64 0)), none⟩] ⟨1, 0,
 []⟩ []) (.block 0 (.loop (.seq (.reg [⟨some 17, .binOp .lss 3 (.tmp 16) (.tmp 15) 3, none⟩] ⟨1, 0, []⟩ []) (.seq (.cond (.tmp 17) .skip (.exit 0)) (.seq (.block 1 (.seq (.reg [⟨some 18, .move (.tmp
 16), none⟩, ⟨some 6, .assign (.tmp 18), none⟩] ⟨18, 18, []⟩ []) (.reg [⟨some 19, .move (.tmp 5), none⟩, ⟨some 20, .move (.tmp 6), none⟩, ⟨some 21, .move (.tmp 0), none⟩, ⟨some 22, .move (.tmp 6),
 none⟩, ⟨some 23, .call ⟨.value (.func 14), #[.tmp 21, .tmp 22], #[28, 3]⟩, none⟩, ⟨some 24, .indexAddr 81 (.tmp 19) (.tmp 20), none⟩, ⟨none, .store 34 (.tmp 24) (.tmp 23), none⟩] ⟨19, 24, []⟩ [])))
 (.reg [⟨some 25, .binOp .add 3 (.tmp 16) (.const (.int .i64 1)) 3, none⟩, ⟨some 16, .move (.tmp 25), none⟩] ⟨25, 25, []⟩ []))))))) (.seq (.reg [⟨some 26, .move (.tmp 5), none⟩, ⟨some 4, .assign (.tmp
 26), none⟩] ⟨26, 26, []⟩ []) .ret))))
theorem z35 : FnF Tryz.prog Tryz.f35 27 c35 [.tmp 4] := ⟨by kernel_rfl, by kernel_rfl, by kernel_rfl, by kernel_rfl, by decide⟩
def c36 : AC :=
 .seq (.reg [⟨some 2, .box 52 (.tmp 0), none⟩, ⟨some 3, .box 52 (.tmp 1), none⟩, ⟨some 4, .assign (.const (.bool false)), none⟩] ⟨1, 0, []⟩ []) (.seq (.reg [⟨some 5, .fieldAddr 52 (.tmp 2) 0, none⟩,
 ⟨some 6, .load 3 (.tmp 5), none⟩, ⟨some 7, .fieldAddr 52 (.tmp 3) 0, none⟩, ⟨some 8, .load 3 (.tmp 7), none⟩, ⟨some 9, .binOp .neq 3 (.tmp 6) (.tmp 8) 3, none⟩, ⟨some 10, .move (.tmp 9), none⟩, ⟨some
 11, .fieldAddr 52 (.tmp 2) 0, some (10, true)⟩, ⟨some 12, .load 3 (.tmp 11), some (10, true)⟩, ⟨some 13, .fieldAddr 52 (.tmp 3) 1, some (10, true)⟩, ⟨some 14, .load 3 (.tmp 13), some (10, true)⟩, ⟨some
 15, .binOp .neq 3 (.tmp 12) (.tmp 14) 3, some (10, true)⟩, ⟨some 16, .pick (.tmp 10) (.tmp 15) (.const (.bool false)), none⟩, ⟨some 17, .move (.tmp 16), none⟩, ⟨some 18, .fieldAddr 52 (.tmp 2) 1, some
 (17, true)⟩, ⟨some 19, .load 3 (.tmp 18), some (17, true)⟩, ⟨some 20, .fieldAddr 52 (.tmp 3) 0, some (17, true)⟩, ⟨some 21, .load 3 (.tmp 20), some (17, true)⟩, ⟨some 22, .binOp .neq 3 (.tmp 19) (.tmp
 21) 3, some (17, true)⟩, ⟨some 23, .pick (.tmp 17) (.tmp 22) (.const (.bool false)), none⟩, ⟨some 24, .move (.tmp 23), none⟩, ⟨some 25, .fieldAddr 52 (.tmp 2) 1, some (24, true)⟩, ⟨some 26, .load 3
 (.tmp 25), some (24, true)⟩, ⟨some 27, .fieldAddr 52 (.tmp 3) 1, some (24, true)⟩, ⟨some 28, .load 3 (.tmp 27), some (24, true)⟩, ⟨some 29, .binOp .neq 3 (.tmp 26) (.tmp 28) 3, some (24, true)⟩, ⟨some
 30, .pick (.tmp 24) (.tmp 29) (.const (.bool false)), none⟩, ⟨some 4, .assign (.tmp 30), none⟩] ⟨5, 30, []⟩ []) .ret)
theorem z36 : FnF Tryz.prog Tryz.f36 31 c36 [.tmp 4] := ⟨by kernel_rfl, by kernel_rfl, by kernel_rfl, by kernel_rfl, by decide⟩
def c37 : AC :=
 .seq (.reg [⟨some 4, .assign (.const (.bool false)), none⟩] ⟨1, 0, []⟩ []) (.seq (.reg [⟨some 5, .move (.tmp 0), none⟩, ⟨some 6, .call ⟨.value (.func 33), #[.tmp 5], #[28]⟩, none⟩, ⟨some 7, .move (.tmp
 1), none⟩, ⟨some 8, .call ⟨.value (.func 33), #[.tmp 7], #[28]⟩, none⟩, ⟨some 9, .call ⟨.value (.func 79), #[.tmp 6, .tmp 8], #[28, 28]⟩, none⟩, ⟨some 4, .assign (.tmp 9), none⟩] ⟨5, 9, []⟩ []) .ret)
theorem z37 : FnF Tryz.prog Tryz.f37 10 c37 [.tmp 4] := ⟨by kernel_rfl, by kernel_rfl, by kernel_rfl, by kernel_rfl, by decide⟩
def c38 : AC :=
 .seq (.reg [⟨some 2, .assign (.const (.bool false)), none⟩] ⟨1, 0, []⟩ []) (.seq (.reg [⟨some 3, .assign (.const (.int .i64 0)), none⟩] ⟨1, 0, []⟩ []) (.seq (.seq (.reg [⟨some 4, .assign (.const (.int
 .i64 0)), none⟩] ⟨1, 0, []⟩ []) (.block 0 (.loop (.seq (.seq (.reg [⟨some 5, .move (.tmp 4), none⟩, ⟨some 6, .move (.tmp 0), none⟩, ⟨some 7, .call ⟨.builtin .len, #[.tmp 6], #[23]⟩, none⟩, ⟨some 8,
 .binOp .lss 3 (.tmp 5) (.tmp 7) 3, none⟩] ⟨5, 7, []⟩ []) (.cond (.tmp 8) .skip (.exit 0))) (.seq (.block 1 (.drw [⟨⟨some 11, .move (.tmp 3), none⟩, []⟩, ⟨⟨some 12, .move (.tmp 0), none⟩, []⟩, ⟨⟨some
 13, .move (.tmp 4), none⟩, []⟩, ⟨⟨some 14, .indexAddr 23 (.tmp 12) (.tmp 13), none⟩, [12, 13]⟩, ⟨⟨some 15, .fieldAddr 71 (.tmp 14) 1, none⟩, [14, 12, 13]⟩, ⟨⟨some 16, .load 66 (.tmp 15), none⟩, [15,
 14, 12, 13]⟩, ⟨⟨some 17, .call ⟨.builtin .len, #[.tmp 16], #[66]⟩, none⟩, [16, 15, 14, 12, 13]⟩, ⟨⟨some 18, .move (.tmp 0), none⟩, []⟩, ⟨⟨some 19, .move (.tmp 4), none⟩, []⟩, ⟨⟨some 20, .indexAddr 23
 (.tmp 18) (.tmp 19), none⟩, [18, 19]⟩, ⟨⟨some 21, .fieldAddr 71 (.tmp 20) 3, none⟩, [20, 18, 19]⟩, ⟨⟨some 22, .fieldAddr 69 (.tmp 21) 0, none⟩, [21, 20, 18, 19]⟩, ⟨⟨some 23, .load 67 (.tmp 22), none⟩,
 [22, 21, 20, 18, 19]⟩, ⟨⟨some 24, .call ⟨.builtin .len, #[.tmp 23], #[67]⟩, none⟩, [23, 22, 21, 20, 18, 19]⟩, ⟨⟨some 25, .binOp .add 3 (.tmp 17) (.tmp 24) 3, none⟩, [17, 16, 15, 14, 12, 13, 24, 23, 22,
 21, 20, 18, 19]⟩, ⟨⟨some 26, .move (.tmp 0), none⟩, []⟩, ⟨⟨some 27, .move (.tmp 4), none⟩, []⟩, ⟨⟨some 28, .indexAddr 23 (.tmp 26) (.tmp 27), none⟩, [26, 27]⟩, ⟨⟨some 29, .fieldAddr 71 (.tmp 28) 3,
 none⟩, [28, 26, 27]⟩, ⟨⟨some 30, .fieldAddr 69 (.tmp 29) 1, none⟩, [29, 28, 26, 27]⟩, ⟨⟨some 31, .load 38 (.tmp 30), none⟩, [30, 29, 28, 26, 27]⟩, ⟨⟨some 32, .call ⟨.builtin .len, #[.tmp 31], #[38]⟩,
 none⟩, [31, 30, 29, 28, 26, 27]⟩, ⟨⟨some 33, .binOp .add 3 (.tmp 25) (.tmp 32) 3, none⟩, [25, 17, 16, 15, 14, 12, 13, 24, 23, 22, 21, 20, 18, 19, 32, 31, 30, 29, 28, 26, 27]⟩, ⟨⟨some 34, .binOp .add 3
 (.tmp 11) (.tmp 33) 3, none⟩, [11, 33, 25, 17, 16, 15, 14, 12, 13, 24, 23, 22, 21, 20, 18, 19, 32, 31, 30, 29, 28, 26, 27]⟩] [⟨⟨some 3, .assign (.tmp 34), none⟩, [34, 11, 33, 25, 17, 16, 15, 14, 12,
 13, 24, 23, 22, 21, 20, 18, 19, 32, 31, 30, 29, 28, 26, 27], []⟩] ⟨11, 34, []⟩ ⟨11, 34, []⟩ [])) (.reg [⟨some 9, .move (.tmp 4), none⟩, ⟨some 10, .binOp .add 3 (.tmp 9) (.const (.int .i64 1)) 3, none⟩,
 ⟨some 4, .assign (.tmp 10), none⟩] ⟨9, 10, []⟩ [])))))) (.seq (.reg [⟨some 35, .move (.tmp 0), none⟩, ⟨some 36, .call ⟨.builtin .len, #[.tmp 35], #[23]⟩, none⟩, ⟨some 37, .binOp .leq 3 (.tmp 36)
 (.const (.int .i64 60)) 3, none⟩, ⟨some 38, .move (.tmp 37), none⟩, ⟨some 39, .move (.tmp 3), some (38, true)⟩, ⟨some 40, .binOp .leq 3 (.tmp 39) (.const (.int .i64 100)) 3, some (38, true)⟩, ⟨some 41,
 .pick (.tmp 38) (.tmp 40) (.const (.bool false)), none⟩, ⟨some 2, .assign (.tmp 41), none⟩] ⟨35, 41, []⟩ []) .ret)))
theorem z38 : FnF Tryz.prog Tryz.f38 42 c38 [.tmp 2] := ⟨by kernel_rfl, by kernel_rfl, by kernel_rfl, by kernel_rfl, by decide⟩
def c39 : AC :=
 .seq (.reg [⟨some 3, .box 27 (.tmp 0), none⟩, ⟨some 5, .box 52 (.tmp 2), none⟩, ⟨some 6, .assign (.const (.int .i64 0)), none⟩, ⟨some 7, .assign (.const (.bool false)), none⟩] ⟨1, 0, []⟩ []) (.seq
 (.seq (.reg [⟨some 8, .assign (.const (.int .i64 0)), none⟩] ⟨1, 0, []⟩ []) (.block 0 (.loop (.seq (.seq (.reg [⟨some 9, .move (.tmp 8), none⟩, ⟨some 10, .fieldAddr 27 (.tmp 3) 6, none⟩, ⟨some 11,
 .load 24 (.tmp 10), none⟩, ⟨some 12, .call ⟨.builtin .len, #[.tmp 11], #[24]⟩, none⟩, ⟨some 13, .binOp .lss 3 (.tmp 9) (.tmp 12) 3, none⟩] ⟨9, 12, []⟩ []) (.cond (.tmp 13) .skip (.exit 0))) (.seq
 (.block 1 (.seq (.drw [⟨⟨some 16, .fieldAddr 27 (.tmp 3) 6, none⟩, []⟩, ⟨⟨some 17, .load 24 (.tmp 16), none⟩, [16]⟩, ⟨⟨some 18, .move (.tmp 8), none⟩, []⟩, ⟨⟨some 19, .indexAddr 24 (.tmp 17) (.tmp 18),
 none⟩, [17, 16, 18]⟩, ⟨⟨some 20, .fieldAddr 65 (.tmp 19) 0, none⟩, [19, 17, 16, 18]⟩, ⟨⟨some 21, .load 3 (.tmp 20), none⟩, [20, 19, 17, 16, 18]⟩, ⟨⟨some 22, .move (.tmp 1), none⟩, []⟩, ⟨⟨some 23,
 .binOp .eql 3 (.tmp 21) (.tmp 22) 3, none⟩, [21, 20, 19, 17, 16, 18, 22]⟩, ⟨⟨some 24, .move (.tmp 23), none⟩, [23, 21, 20, 19, 17, 16, 18, 22]⟩, ⟨⟨some 25, .fieldAddr 27 (.tmp 3) 6, some (24, true)⟩,
 [24, 23, 21, 20, 19, 17, 16, 18, 22]⟩, ⟨⟨some 26, .load 24 (.tmp 25), some (24, true)⟩, [25, 24, 23, 21, 20, 19, 17, 16, 18, 22]⟩, ⟨⟨some 27, .move (.tmp 8), some (24, true)⟩, [24, 23, 21, 20, 19, 17,
 16, 18, 22]⟩, ⟨⟨some 28, .indexAddr 24 (.tmp 26) (.tmp 27), some (24, true)⟩, [26, 25, 27, 24, 23, 21, 20, 19, 17, 16, 18, 22]⟩, ⟨⟨some 29, .fieldAddr 65 (.tmp 28) 1, some (24, true)⟩, [28, 26, 25, 27,
 24, 23, 21, 20, 19, 17, 16, 18, 22]⟩, ⟨⟨some 30, .load 52 (.tmp 29), some (24, true)⟩, [29, 28, 26, 25, 27, 24, 23, 21, 20, 19, 17, 16, 18, 22]⟩, ⟨⟨some 31, .load 52 (.tmp 5), some (24, true)⟩, [24,
 23, 21, 20, 19, 17, 16, 18, 22]⟩, ⟨⟨some 32, .binOp .eql 52 (.tmp 30) (.tmp 31) 52, some (24, true)⟩, [30, 29, 28, 26, 25, 27, 31, 24, 23, 21, 20, 19, 17, 16, 18, 22]⟩, ⟨⟨some 33, .pick (.tmp 24) (.tmp
 32) (.const (.bool false)), none⟩, [32, 30, 29, 28, 26, 25, 27, 31, 24, 23, 21, 20, 19, 17, 16, 18, 22]⟩] [] ⟨16, 33, []⟩ ⟨16, 32, []⟩ []) (.cond (.tmp 33) (.seq (.reg [⟨some 34, .fieldAddr 27 (.tmp 3)
 6, none⟩, ⟨some 35, .load 24 (.tmp 34), none⟩, ⟨some 36, .move (.tmp 8), none⟩, ⟨some 37, .indexAddr 24 (.tmp 35) (.tmp 36), none⟩, ⟨some 38, .fieldAddr 65 (.tmp 37) 2, none⟩, ⟨some 39, .load 3 (.tmp
 38), none⟩, ⟨some 6, .assign (.tmp 39), none⟩, ⟨some 7, .assign (.const (.bool true)), none⟩] ⟨34, 39, []⟩ []) .ret) .skip))) (.reg [⟨some 14, .move (.tmp 8), none⟩, ⟨some 15, .binOp .add 3 (.tmp 14)
 (.const (.int .i64 1)) 3, none⟩, ⟨some 8, .assign (.tmp 15), none⟩] ⟨14, 15, []⟩ [])))))) (.seq (.reg [⟨some 6, .assign (.const (.int .i64 0)), none⟩, ⟨some 7, .assign (.const (.bool false)), none⟩]
 ⟨1, 0, []⟩ []) .ret))
theorem z39 : FnF Tryz.prog Tryz.f39 40 c39 [.tmp 6, .tmp 7] := ⟨by kernel_rfl, by kernel_rfl, by kernel_rfl, by kernel_rfl, by decide⟩
def c41 : AC :=
 .seq (.reg [⟨some 2, .assign (.const (.int .i64 0)), none⟩] ⟨1, 0, []⟩ []) (.seq (.reg [⟨some 3, .assign (.const (.int .i64 0)), none⟩] ⟨1, 0, []⟩ []) (.seq (.seq (.reg [⟨some 4, .assign (.const (.int
 .i64 0)), none⟩] ⟨1, 0, []⟩ []) (.block 0 (.loop (.seq (.seq (.reg [⟨some 5, .move (.tmp 4), none⟩, ⟨some 6, .move (.tmp 0), none⟩, ⟨some 7, .call ⟨.builtin .len, #[.tmp 6], #[23]⟩, none⟩, ⟨some 8,
 .binOp .lss 3 (.tmp 5) (.tmp 7) 3, none⟩] ⟨5, 7, []⟩ []) (.cond (.tmp 8) .skip (.exit 0))) (.seq (.block 1 (.reg [⟨some 11, .move (.tmp 3), none⟩, ⟨some 12, .move (.tmp 0), none⟩, ⟨some 13, .move (.tmp
 4), none⟩, ⟨some 14, .indexAddr 23 (.tmp 12) (.tmp 13), none⟩, ⟨some 15, .fieldAddr 71 (.tmp 14) 1, none⟩, ⟨some 16, .load 66 (.tmp 15), none⟩, ⟨some 17, .call ⟨.builtin .len, #[.tmp 16], #[66]⟩,
 none⟩, ⟨some 18, .binOp .add 3 (.tmp 11) (.tmp 17) 3, none⟩, ⟨some 3, .assign (.tmp 18), none⟩] ⟨11, 18, []⟩ [])) (.reg [⟨some 9, .move (.tmp 4), none⟩, ⟨some 10, .binOp .add 3 (.tmp 9) (.const (.int
 .i64 1)) 3, none⟩, ⟨some 4, .assign (.tmp 10), none⟩] ⟨9, 10, []⟩ [])))))) (.seq (.reg [⟨some 19, .move (.tmp 3), none⟩, ⟨some 2, .assign (.tmp 19), none⟩] ⟨19, 19, []⟩ []) .ret)))
theorem z41 : FnF Tryz.prog Tryz.f41 20 c41 [.tmp 2] := ⟨by kernel_rfl, by kernel_rfl, by kernel_rfl, by kernel_rfl, by decide⟩
def c52 : AC :=
 .seq (.reg [⟨some 2, .box 27 (.tmp 0), none⟩, ⟨some 4, .assign (.const (.slice none 0 0)), none⟩] ⟨1, 0, []⟩ []) (.seq (.reg [⟨some 5, .assign (.const (.slice none 0 0)), none⟩] ⟨1, 0, []⟩ []) (.seq
 (.seq (.reg [⟨some 6, .assign (.const (.int .i64 0)), none⟩] ⟨1, 0, []⟩ []) (.block 0 (.loop (.seq (.seq (.reg [⟨some 8, .move (.tmp 6), none⟩, ⟨some 9, .fieldAddr 27 (.tmp 2) 6, none⟩, ⟨some 10, .load
 24 (.tmp 9), none⟩, ⟨some 11, .call ⟨.builtin .len, #[.tmp 10], #[24]⟩, none⟩, ⟨some 12, .binOp .lss 3 (.tmp 8) (.tmp 11) 3, none⟩] ⟨8, 11, []⟩ []) (.cond (.tmp 12) .skip (.exit 0))) (.seq (.block 1
 (.seq (.seq (.reg [⟨some 15, .fieldAddr 27 (.tmp 2) 6, none⟩, ⟨some 16, .load 24 (.tmp 15), none⟩, ⟨some 17, .move (.tmp 6), none⟩, ⟨some 18, .indexAddr 24 (.tmp 16) (.tmp 17), none⟩, ⟨some 19,
 .fieldAddr 65 (.tmp 18) 0, none⟩, ⟨some 20, .load 3 (.tmp 19), none⟩, ⟨some 21, .move (.tmp 1), none⟩, ⟨some 22, .binOp .neq 3 (.tmp 20) (.tmp 21) 3, none⟩] ⟨15, 21, []⟩ []) (.cond (.tmp 22) (.exit 1)
 .skip)) (.seq (.reg [⟨some 7, .assign (.const (.int .i64 0)), none⟩] ⟨1, 0, []⟩ []) (.seq (.block 2 (.loop (.seq (.seq (.drw [⟨⟨some 23, .move (.tmp 7), none⟩, []⟩, ⟨⟨some 24, .move (.tmp 5), none⟩,
 []⟩, ⟨⟨some 25, .call ⟨.builtin .len, #[.tmp 24], #[37]⟩, none⟩, [24]⟩, ⟨⟨some 26, .binOp .lss 3 (.tmp 23) (.tmp 25) 3, none⟩, [23, 25, 24]⟩, ⟨⟨some 27, .move (.tmp 26), none⟩, [26, 23, 25, 24]⟩,
 ⟨⟨some 28, .load 27 (.tmp 2), some (27, true)⟩, [27, 26, 23, 25, 24]⟩, ⟨⟨some 29, .move (.tmp 5), some (27, true)⟩, [27, 26, 23, 25, 24]⟩, ⟨⟨some 30, .move (.tmp 7), some (27, true)⟩, [27, 26, 23, 25,
 24]⟩, ⟨⟨some 31, .indexAddr 37 (.tmp 29) (.tmp 30), some (27, true)⟩, [29, 30, 27, 26, 23, 25, 24]⟩, ⟨⟨some 32, .load 3 (.tmp 31), some (27, true)⟩, [31, 29, 30, 27, 26, 23, 25, 24]⟩, ⟨⟨some 33, .move
 (.tmp 6), some (27, true)⟩, [27, 26, 23, 25, 24]⟩, ⟨⟨some 34, .call ⟨.value (.func 96), #[.tmp 28, .tmp 32, .tmp 33], #[27, 3, 3]⟩, some (27, true)⟩, [28, 32, 31, 29, 30, 33, 27, 26, 23, 25, 24]⟩,
 ⟨⟨some 35, .pick (.tmp 27) (.tmp 34) (.const (.bool false)), none⟩, [34, 28, 32, 31, 29, 30, 33, 27, 26, 23, 25, 24]⟩] [] ⟨23, 35, []⟩ ⟨23, 34, []⟩ []) (.cond (.tmp 35) .skip (.exit 2))) (.block 3
 (.reg [⟨some 36, .move (.tmp 7), none⟩, ⟨some 37, .binOp .add 3 (.tmp 36) (.const (.int .i64 1)) 3, none⟩, ⟨some 7, .assign (.tmp 37), none⟩] ⟨36, 37, []⟩ []))))) (.drw [⟨⟨some 38, .move (.tmp 5),
 none⟩, []⟩, ⟨⟨some 39, .move (.tmp 7), none⟩, []⟩, ⟨⟨some 40, .slice 37 (.tmp 38) none (some (.tmp 39)) none, none⟩, [38, 39]⟩, ⟨⟨some 41, .move (.tmp 6), none⟩, []⟩, ⟨⟨some 42, .buildSlice 37 1 #[(0,
 .tmp 41)], none⟩, [41]⟩, ⟨⟨some 43, .move (.tmp 5), none⟩, []⟩, ⟨⟨some 44, .move (.tmp 7), none⟩, []⟩, ⟨⟨some 45, .slice 37 (.tmp 43) (some (.tmp 44)) none none, none⟩, [43, 44]⟩, ⟨⟨some 46, .call
 ⟨.builtin .append, #[.tmp 42, .tmp 45], #[37, 37]⟩, none⟩, [41, 45, 43, 44]⟩] [⟨⟨some 47, .call ⟨.builtin .append, #[.tmp 40, .tmp 46], #[37, 37]⟩, none⟩, [40, 38, 39, 46, 41, 45, 43, 44], []⟩, ⟨⟨some
 5, .assign (.tmp 47), none⟩, [], []⟩] ⟨38, 46, []⟩ ⟨38, 47, []⟩ []))))) (.reg [⟨some 13, .move (.tmp 6), none⟩, ⟨some 14, .binOp .add 3 (.tmp 13) (.const (.int .i64 1)) 3, none⟩, ⟨some 6, .assign (.tmp
 14), none⟩] ⟨13, 14, []⟩ [])))))) (.seq (.reg [⟨some 48, .move (.tmp 5), none⟩, ⟨some 4, .assign (.tmp 48), none⟩] ⟨48, 48, []⟩ []) .ret)))
theorem z52 : FnF Tryz.prog Tryz.f52 49 c52 [.tmp 4] := ⟨by kernel_rfl, by kernel_rfl, by kernel_rfl, by kernel_rfl, by decide⟩
def c58 : AC :=
 .seq (.reg [⟨some 1, .box 27 (.tmp 0), none⟩, ⟨some 2, .assign (.const (.bool false)), none⟩] ⟨1, 0, []⟩ []) (.seq (.seq (.reg [⟨some 3, .assign (.const (.int .i64 0)), none⟩] ⟨1, 0, []⟩ []) (.block 0
 (.loop (.seq (.seq (.reg [⟨some 4, .move (.tmp 3), none⟩, ⟨some 5, .fieldAddr 27 (.tmp 1) 1, none⟩, ⟨some 6, .load 22 (.tmp 5), none⟩, ⟨some 7, .call ⟨.builtin .len, #[.tmp 6], #[22]⟩, none⟩, ⟨some 8,
 .binOp .lss 3 (.tmp 4) (.tmp 7) 3, none⟩] ⟨4, 7, []⟩ []) (.cond (.tmp 8) .skip (.exit 0))) (.seq (.block 1 (.seq (.drw [⟨⟨some 11, .fieldAddr 27 (.tmp 1) 1, none⟩, []⟩, ⟨⟨some 12, .load 22 (.tmp 11),
 none⟩, [11]⟩, ⟨⟨some 13, .move (.tmp 3), none⟩, []⟩, ⟨⟨some 14, .indexAddr 22 (.tmp 12) (.tmp 13), none⟩, [12, 11, 13]⟩, ⟨⟨some 15, .load 9 (.tmp 14), none⟩, [14, 12, 11, 13]⟩, ⟨⟨some 16, .call ⟨.value
 (.func 98), #[.tmp 15], #[9]⟩, none⟩, [15, 14, 12, 11, 13]⟩, ⟨⟨some 17, .unOp .not 4 (.tmp 16), none⟩, [16, 15, 14, 12, 11, 13]⟩, ⟨⟨some 18, .move (.tmp 17), none⟩, [17, 16, 15, 14, 12, 11, 13]⟩,
 ⟨⟨some 19, .fieldAddr 27 (.tmp 1) 1, some (18, false)⟩, [18, 17, 16, 15, 14, 12, 11, 13]⟩, ⟨⟨some 20, .load 22 (.tmp 19), some (18, false)⟩, [19, 18, 17, 16, 15, 14, 12, 11, 13]⟩, ⟨⟨some 21, .fieldAddr
 27 (.tmp 1) 1, some (18, false)⟩, [18, 17, 16, 15, 14, 12, 11, 13]⟩, ⟨⟨some 22, .load 22 (.tmp 21), some (18, false)⟩, [21, 18, 17, 16, 15, 14, 12, 11, 13]⟩, ⟨⟨some 23, .move (.tmp 3), some (18,
 false)⟩, [18, 17, 16, 15, 14, 12, 11, 13]⟩, ⟨⟨some 24, .indexAddr 22 (.tmp 22) (.tmp 23), some (18, false)⟩, [22, 21, 23, 18, 17, 16, 15, 14, 12, 11, 13]⟩, ⟨⟨some 25, .load 9 (.tmp 24), some (18,
 false)⟩, [24, 22, 21, 23, 18, 17, 16, 15, 14, 12, 11, 13]⟩, ⟨⟨some 26, .call ⟨.value (.func 99), #[.tmp 20, .tmp 25], #[22, 9]⟩, some (18, false)⟩, [20, 19, 25, 24, 22, 21, 23, 18, 17, 16, 15, 14, 12,
 11, 13]⟩, ⟨⟨some 27, .move (.tmp 3), some (18, false)⟩, [18, 17, 16, 15, 14, 12, 11, 13]⟩, ⟨⟨some 28, .binOp .lss 3 (.tmp 26) (.tmp 27) 3, some (18, false)⟩, [26, 20, 19, 25, 24, 22, 21, 23, 27, 18,
 17, 16, 15, 14, 12, 11, 13]⟩, ⟨⟨some 29, .pick (.tmp 18) (.const (.bool true)) (.tmp 28), none⟩, [28, 26, 20, 19, 25, 24, 22, 21, 23, 27, 18, 17, 16, 15, 14, 12, 11, 13]⟩] [] ⟨11, 29, []⟩ ⟨11, 28, []⟩
 []) (.cond (.tmp 29) (.seq (.reg [⟨some 2, .assign (.const (.bool false)), none⟩] ⟨1, 0, []⟩ []) .ret) .skip))) (.reg [⟨some 9, .move (.tmp 3), none⟩, ⟨some 10, .binOp .add 3 (.tmp 9) (.const (.int
 .i64 1)) 3, none⟩, ⟨some 3, .assign (.tmp 10), none⟩] ⟨9, 10, []⟩ [])))))) (.seq (.reg [⟨some 30, .fieldAddr 27 (.tmp 1) 0, none⟩, ⟨some 31, .load 9 (.tmp 30), none⟩, ⟨some 32, .call ⟨.value (.func
 98), #[.tmp 31], #[9]⟩, none⟩, ⟨some 33, .move (.tmp 32), none⟩, ⟨some 34, .fieldAddr 27 (.tmp 1) 1, some (33, true)⟩, ⟨some 35, .load 22 (.tmp 34), some (33, true)⟩, ⟨some 36, .call ⟨.builtin .len,
 #[.tmp 35], #[22]⟩, some (33, true)⟩, ⟨some 37, .binOp .geq 3 (.tmp 36) (.const (.int .i64 1)) 3, some (33, true)⟩, ⟨some 38, .pick (.tmp 33) (.tmp 37) (.const (.bool false)), none⟩, ⟨some 39, .move
 (.tmp 38), none⟩, ⟨some 40, .fieldAddr 27 (.tmp 1) 1, some (39, true)⟩, ⟨some 41, .load 22 (.tmp 40), some (39, true)⟩, ⟨some 42, .call ⟨.builtin .len, #[.tmp 41], #[22]⟩, some (39, true)⟩, ⟨some 43,
 .binOp .leq 3 (.tmp 42) (.const (.int .i64 6)) 3, some (39, true)⟩, ⟨some 44, .pick (.tmp 39) (.tmp 43) (.const (.bool false)), none⟩, ⟨some 45, .move (.tmp 44), none⟩, ⟨some 46, .fieldAddr 27 (.tmp 1)
 2, some (45, true)⟩, ⟨some 47, .load 23 (.tmp 46), some (45, true)⟩, ⟨some 48, .call ⟨.value (.func 100), #[.tmp 47], #[23]⟩, some (45, true)⟩, ⟨some 49, .pick (.tmp 45) (.tmp 48) (.const (.bool
 false)), none⟩, ⟨some 2, .assign (.tmp 49), none⟩] ⟨30, 49, []⟩ []) .ret))
theorem z58 : FnF Tryz.prog Tryz.f58 50 c58 [.tmp 2] := ⟨by kernel_rfl, by kernel_rfl, by kernel_rfl, by kernel_rfl, by decide⟩
def c59 : AC :=
 .seq (.reg [⟨some 1, .box 27 (.tmp 0), none⟩, ⟨some 2, .assign (.const (.bool false)), none⟩] ⟨1, 0, []⟩ []) (.seq (.seq (.reg [⟨some 3, .assign (.const (.int .i64 0)), none⟩] ⟨1, 0, []⟩ []) (.block 0
 (.loop (.seq (.seq (.reg [⟨some 5, .move (.tmp 3), none⟩, ⟨some 6, .fieldAddr 27 (.tmp 1) 6, none⟩, ⟨some 7, .load 24 (.tmp 6), none⟩, ⟨some 8, .call ⟨.builtin .len, #[.tmp 7], #[24]⟩, none⟩, ⟨some 9,
 .binOp .lss 3 (.tmp 5) (.tmp 8) 3, none⟩] ⟨5, 8, []⟩ []) (.cond (.tmp 9) .skip (.exit 0))) (.seq (.block 1 (.seq (.reg [⟨some 12, .fieldAddr 27 (.tmp 1) 6, none⟩, ⟨some 13, .load 24 (.tmp 12), none⟩,
 ⟨some 14, .move (.tmp 3), none⟩, ⟨some 15, .indexAddr 24 (.tmp 13) (.tmp 14), none⟩, ⟨some 16, .load 65 (.tmp 15), none⟩, ⟨some 4, .alloc 65, none⟩, ⟨none, .store 65 (.tmp 4) (.tmp 16), none⟩] ⟨12, 16,
 []⟩ []) (.seq (.reg [⟨some 17, .load 27 (.tmp 1), none⟩, ⟨some 18, .fieldAddr 65 (.tmp 4) 0, none⟩, ⟨some 19, .load 3 (.tmp 18), none⟩, ⟨some 20, .call ⟨.value (.func 101), #[.tmp 17, .tmp 19], #[27,
 3]⟩, none⟩, ⟨some 21, .unOp .not 4 (.tmp 20), none⟩, ⟨some 22, .move (.tmp 21), none⟩, ⟨some 23, .load 27 (.tmp 1), some (22, false)⟩, ⟨some 24, .fieldAddr 65 (.tmp 4) 2, some (22, false)⟩, ⟨some 25,
 .load 3 (.tmp 24), some (22, false)⟩, ⟨some 26, .call ⟨.value (.func 101), #[.tmp 23, .tmp 25], #[27, 3]⟩, some (22, false)⟩, ⟨some 27, .unOp .not 4 (.tmp 26), some (22, false)⟩, ⟨some 28, .pick (.tmp
 22) (.const (.bool true)) (.tmp 27), none⟩, ⟨some 29, .move (.tmp 28), none⟩, ⟨some 30, .fieldAddr 65 (.tmp 4) 1, some (29, false)⟩, ⟨some 31, .fieldAddr 52 (.tmp 30) 0, some (29, false)⟩, ⟨some 32,
 .load 3 (.tmp 31), some (29, false)⟩, ⟨some 33, .binOp .lss 3 (.tmp 32) (.const (.int .i64 0)) 3, some (29, false)⟩, ⟨some 34, .pick (.tmp 29) (.const (.bool true)) (.tmp 33), none⟩, ⟨some 35, .move
 (.tmp 34), none⟩, ⟨some 36, .fieldAddr 65 (.tmp 4) 1, some (35, false)⟩, ⟨some 37, .fieldAddr 52 (.tmp 36) 0, some (35, false)⟩, ⟨some 38, .load 3 (.tmp 37), some (35, false)⟩, ⟨some 39, .fieldAddr 27
 (.tmp 1) 1, some (35, false)⟩, ⟨some 40, .load 22 (.tmp 39), some (35, false)⟩, ⟨some 41, .call ⟨.builtin .len, #[.tmp 40], #[22]⟩, some (35, false)⟩, ⟨some 42, .binOp .geq 3 (.tmp 38) (.tmp 41) 3,
 some (35, false)⟩, ⟨some 43, .pick (.tmp 35) (.const (.bool true)) (.tmp 42), none⟩, ⟨some 44, .move (.tmp 43), none⟩, ⟨some 45, .fieldAddr 65 (.tmp 4) 1, some (44, false)⟩, ⟨some 46, .fieldAddr 52
 (.tmp 45) 1, some (44, false)⟩, ⟨some 47, .load 3 (.tmp 46), some (44, false)⟩, ⟨some 48, .binOp .lss 3 (.tmp 47) (.const (.int .i64 0)) 3, some (44, false)⟩, ⟨some 49, .pick (.tmp 44) (.const (.bool
 true)) (.tmp 48), none⟩, ⟨some 50, .move (.tmp 49), none⟩, ⟨some 51, .fieldAddr 65 (.tmp 4) 1, some (50, false)⟩, ⟨some 52, .fieldAddr 52 (.tmp 51) 1, some (50, false)⟩, ⟨some 53, .load 3 (.tmp 52),
 some (50, false)⟩, ⟨some 54, .fieldAddr 27 (.tmp 1) 1, some (50, false)⟩, ⟨some 55, .load 22 (.tmp 54), some (50, false)⟩, ⟨some 56, .call ⟨.builtin .len, #[.tmp 55], #[22]⟩, some (50, false)⟩, ⟨some
 57, .binOp .geq 3 (.tmp 53) (.tmp 56) 3, some (50, false)⟩, ⟨some 58, .pick (.tmp 50) (.const (.bool true)) (.tmp 57), none⟩, ⟨some 59, .move (.tmp 58), none⟩, ⟨some 60, .fieldAddr 65 (.tmp 4) 1, some
 (59, false)⟩, ⟨some 61, .fieldAddr 52 (.tmp 60) 0, some (59, false)⟩, ⟨some 62, .load 3 (.tmp 61), some (59, false)⟩, ⟨some 63, .fieldAddr 65 (.tmp 4) 1, some (59, false)⟩, ⟨some 64, .fieldAddr 52
 (.tmp 63) 1, some (59, false)⟩, ⟨some 65, .load 3 (.tmp 64), some (59, false)⟩, ⟨some 66, .binOp .eql 3 (.tmp 62) (.tmp 65) 3, some (59, false)⟩, ⟨some 67, .pick (.tmp 59) (.const (.bool true)) (.tmp
 66), none⟩, ⟨some 68, .move (.tmp 67), none⟩, ⟨some 69, .fieldAddr 65 (.tmp 4) 1, some (68, false)⟩, ⟨some 70, .fieldAddr 52 (.tmp 69) 2, some (68, false)⟩, ⟨some 71, .load 3 (.tmp 70), some (68,
 false)⟩, ⟨some 72, .binOp .lss 3 (.tmp 71) (.const (.int .i64 0)) 3, some (68, false)⟩, ⟨some 73, .pick (.tmp 68) (.const (.bool true)) (.tmp 72), none⟩, ⟨some 74, .move (.tmp 73), none⟩, ⟨some 75,
 .fieldAddr 65 (.tmp 4) 1, some (74, false)⟩, ⟨some 76, .fieldAddr 52 (.tmp 75) 2, some (74, false)⟩, ⟨some 77, .load 3 (.tmp 76), some (74, false)⟩, ⟨some 78, .fieldAddr 27 (.tmp 1) 2, some (74,
 false)⟩, ⟨some 79, .load 23 (.tmp 78), some (74, false)⟩, ⟨some 80, .call ⟨.builtin .len, #[.tmp 79], #[23]⟩, some (74, false)⟩, ⟨some 81, .binOp .geq 3 (.tmp 77) (.tmp 80) 3, some (74, false)⟩, ⟨some
 82, .pick (.tmp 74) (.const (.bool true)) (.tmp 81), none⟩] ⟨17, 81, []⟩ []) (.cond (.tmp 82) (.seq (.reg [⟨some 2, .assign (.const (.bool false)), none⟩] ⟨1, 0, []⟩ []) .ret) .skip)))) (.reg [⟨some
 10, .move (.tmp 3), none⟩, ⟨some 11, .binOp .add 3 (.tmp 10) (.const (.int .i64 1)) 3, none⟩, ⟨some 3, .assign (.tmp 11), none⟩] ⟨10, 11, []⟩ [])))))) (.seq (.reg [⟨some 83, .fieldAddr 27 (.tmp 1) 3,
 none⟩, ⟨some 84, .load 3 (.tmp 83), none⟩, ⟨some 85, .binOp .geq 3 (.tmp 84) (.const (.int .i64 1)) 3, none⟩, ⟨some 86, .move (.tmp 85), none⟩, ⟨some 87, .fieldAddr 27 (.tmp 1) 3, some (86, true)⟩,
 ⟨some 88, .load 3 (.tmp 87), some (86, true)⟩, ⟨some 89, .binOp .leq 3 (.tmp 88) (.const (.int .i64 200)) 3, some (86, true)⟩, ⟨some 90, .pick (.tmp 86) (.tmp 89) (.const (.bool false)), none⟩, ⟨some
 91, .move (.tmp 90), none⟩, ⟨some 92, .load 27 (.tmp 1), some (91, true)⟩, ⟨some 93, .fieldAddr 27 (.tmp 1) 4, some (91, true)⟩, ⟨some 94, .load 3 (.tmp 93), some (91, true)⟩, ⟨some 95, .call ⟨.value
 (.func 101), #[.tmp 92, .tmp 94], #[27, 3]⟩, some (91, true)⟩, ⟨some 96, .pick (.tmp 91) (.tmp 95) (.const (.bool false)), none⟩, ⟨some 97, .move (.tmp 96), none⟩, ⟨some 98, .load 27 (.tmp 1), some
 (97, true)⟩, ⟨some 99, .fieldAddr 27 (.tmp 1) 5, some (97, true)⟩, ⟨some 100, .load 3 (.tmp 99), some (97, true)⟩, ⟨some 101, .call ⟨.value (.func 101), #[.tmp 98, .tmp 100], #[27, 3]⟩, some (97,
 true)⟩, ⟨some 102, .pick (.tmp 97) (.tmp 101) (.const (.bool false)), none⟩, ⟨some 103, .move (.tmp 102), none⟩, ⟨some 104, .fieldAddr 27 (.tmp 1) 6, some (103, true)⟩, ⟨some 105, .load 24 (.tmp 104),
 some (103, true)⟩, ⟨some 106, .call ⟨.builtin .len, #[.tmp 105], #[24]⟩, some (103, true)⟩, ⟨some 107, .binOp .leq 3 (.tmp 106) (.const (.int .i64 400)) 3, some (103, true)⟩, ⟨some 108, .pick (.tmp
 103) (.tmp 107) (.const (.bool false)), none⟩, ⟨some 2, .assign (.tmp 108), none⟩] ⟨83, 108, []⟩ []) .ret))
theorem z59 : FnF Tryz.prog Tryz.f59 109 c59 [.tmp 2] := ⟨by kernel_rfl, by kernel_rfl, by kernel_rfl, by kernel_rfl, by decide⟩
def c60 : AC :=
 .seq (.reg [⟨some 1, .box 27 (.tmp 0), none⟩, ⟨some 2, .assign (.const (.bool false)), none⟩] ⟨1, 0, []⟩ []) (.seq (.seq (.reg [⟨some 3, .assign (.const (.int .i64 0)), none⟩] ⟨1, 0, []⟩ []) (.block 0
 (.loop (.seq (.seq (.reg [⟨some 7, .move (.tmp 3), none⟩, ⟨some 8, .fieldAddr 27 (.tmp 1) 6, none⟩, ⟨some 9, .load 24 (.tmp 8), none⟩, ⟨some 10, .call ⟨.builtin .len, #[.tmp 9], #[24]⟩, none⟩, ⟨some
 11, .binOp .lss 3 (.tmp 7) (.tmp 10) 3, none⟩] ⟨7, 10, []⟩ []) (.cond (.tmp 11) .skip (.exit 0))) (.seq (.block 1 (.seq (.reg [⟨some 14, .fieldAddr 27 (.tmp 1) 6, none⟩, ⟨some 15, .load 24 (.tmp 14),
 none⟩, ⟨some 16, .move (.tmp 3), none⟩, ⟨some 17, .indexAddr 24 (.tmp 15) (.tmp 16), none⟩, ⟨some 18, .load 65 (.tmp 17), none⟩, ⟨some 4, .alloc 65, none⟩, ⟨none, .store 65 (.tmp 4) (.tmp 18), none⟩]
 ⟨14, 18, []⟩ []) (.seq (.seq (.reg [⟨some 19, .fieldAddr 65 (.tmp 4) 3, none⟩, ⟨some 20, .load 4 (.tmp 19), none⟩, ⟨some 21, .move (.tmp 20), none⟩, ⟨some 22, .fieldAddr 65 (.tmp 4) 0, some (21,
 true)⟩, ⟨some 23, .load 3 (.tmp 22), some (21, true)⟩, ⟨some 24, .fieldAddr 27 (.tmp 1) 4, some (21, true)⟩, ⟨some 25, .load 3 (.tmp 24), some (21, true)⟩, ⟨some 26, .binOp .eql 3 (.tmp 23) (.tmp 25)
 3, some (21, true)⟩, ⟨some 27, .pick (.tmp 21) (.tmp 26) (.const (.bool false)), none⟩] ⟨19, 26, []⟩ []) (.cond (.tmp 27) (.seq (.reg [⟨some 2, .assign (.const (.bool false)), none⟩] ⟨1, 0, []⟩ [])
 .ret) .skip)) (.seq (.reg [⟨some 5, .assign (.const (.int .i64 0)), none⟩] ⟨1, 0, []⟩ []) (.block 2 (.loop (.seq (.seq (.reg [⟨some 28, .move (.tmp 5), none⟩, ⟨some 29, .fieldAddr 27 (.tmp 1) 6, none⟩,
 ⟨some 30, .load 24 (.tmp 29), none⟩, ⟨some 31, .call ⟨.builtin .len, #[.tmp 30], #[24]⟩, none⟩, ⟨some 32, .binOp .lss 3 (.tmp 28) (.tmp 31) 3, none⟩] ⟨28, 31, []⟩ []) (.cond (.tmp 32) .skip (.exit 2)))
 (.seq (.block 3 (.seq (.reg [⟨some 35, .fieldAddr 27 (.tmp 1) 6, none⟩, ⟨some 36, .load 24 (.tmp 35), none⟩, ⟨some 37, .move (.tmp 5), none⟩, ⟨some 38, .indexAddr 24 (.tmp 36) (.tmp 37), none⟩, ⟨some
 39, .load 65 (.tmp 38), none⟩, ⟨some 6, .alloc 65, none⟩, ⟨none, .store 65 (.tmp 6) (.tmp 39), none⟩] ⟨35, 39, []⟩ []) (.seq (.seq (.reg [⟨some 40, .move (.tmp 5), none⟩, ⟨some 41, .move (.tmp 3),
 none⟩, ⟨some 42, .binOp .neq 3 (.tmp 40) (.tmp 41) 3, none⟩, ⟨some 43, .move (.tmp 42), none⟩, ⟨some 44, .fieldAddr 65 (.tmp 4) 0, some (43, true)⟩, ⟨some 45, .load 3 (.tmp 44), some (43, true)⟩, ⟨some
 46, .fieldAddr 65 (.tmp 6) 0, some (43, true)⟩, ⟨some 47, .load 3 (.tmp 46), some (43, true)⟩, ⟨some 48, .binOp .eql 3 (.tmp 45) (.tmp 47) 3, some (43, true)⟩, ⟨some 49, .pick (.tmp 43) (.tmp 48)
 (.const (.bool false)), none⟩, ⟨some 50, .move (.tmp 49), none⟩, ⟨some 51, .fieldAddr 65 (.tmp 4) 1, some (50, true)⟩, ⟨some 52, .load 52 (.tmp 51), some (50, true)⟩, ⟨some 53, .fieldAddr 65 (.tmp 6)
 1, some (50, true)⟩, ⟨some 54, .load 52 (.tmp 53), some (50, true)⟩, ⟨some 55, .binOp .eql 52 (.tmp 52) (.tmp 54) 52, some (50, true)⟩, ⟨some 56, .move (.tmp 55), some (50, true)⟩, ⟨some 57, .fieldAddr
 65 (.tmp 4) 1, some (56, false)⟩, ⟨some 58, .fieldAddr 52 (.tmp 57) 0, some (56, false)⟩, ⟨some 59, .load 3 (.tmp 58), some (56, false)⟩, ⟨some 60, .fieldAddr 65 (.tmp 6) 1, some (56, false)⟩, ⟨some
 61, .fieldAddr 52 (.tmp 60) 0, some (56, false)⟩, ⟨some 62, .load 3 (.tmp 61), some (56, false)⟩, ⟨some 63, .binOp .neq 3 (.tmp 59) (.tmp 62) 3, some (56, false)⟩, ⟨some 64, .pick (.tmp 56) (.const
 (.bool true)) (.tmp 63), some (50, true)⟩, ⟨some 65, .move (.tmp 64), some (50, true)⟩, ⟨some 66, .fieldAddr 65 (.tmp 4) 3, some (65, false)⟩, ⟨some 67, .load 4 (.tmp 66), some (65, false)⟩, ⟨some 68,
 .pick (.tmp 65) (.const (.bool true)) (.tmp 67), some (50, true)⟩, ⟨some 69, .pick (.tmp 50) (.tmp 68) (.const (.bool false)), none⟩] ⟨40, 68, []⟩ []) (.cond (.tmp 69) (.seq (.reg [⟨some 2, .assign
 (.const (.bool false)), none⟩] ⟨1, 0, []⟩ []) .ret) .skip)) (.seq (.reg [⟨some 70, .fieldAddr 65 (.tmp 4) 3, none⟩, ⟨some 71, .load 4 (.tmp 70), none⟩, ⟨some 72, .move (.tmp 71), none⟩, ⟨some 73,
 .fieldAddr 65 (.tmp 6) 2, some (72, true)⟩, ⟨some 74, .load 3 (.tmp 73), some (72, true)⟩, ⟨some 75, .fieldAddr 65 (.tmp 4) 0, some (72, true)⟩, ⟨some 76, .load 3 (.tmp 75), some (72, true)⟩, ⟨some 77,
 .binOp .eql 3 (.tmp 74) (.tmp 76) 3, some (72, true)⟩, ⟨some 78, .pick (.tmp 72) (.tmp 77) (.const (.bool false)), none⟩, ⟨some 79, .move (.tmp 78), none⟩, ⟨some 80, .fieldAddr 65 (.tmp 6) 1, some (79,
 true)⟩, ⟨some 81, .fieldAddr 52 (.tmp 80) 0, some (79, true)⟩, ⟨some 82, .load 3 (.tmp 81), some (79, true)⟩, ⟨some 83, .fieldAddr 65 (.tmp 4) 1, some (79, true)⟩, ⟨some 84, .fieldAddr 52 (.tmp 83) 0,
 some (79, true)⟩, ⟨some 85, .load 3 (.tmp 84), some (79, true)⟩, ⟨some 86, .binOp .neq 3 (.tmp 82) (.tmp 85) 3, some (79, true)⟩, ⟨some 87, .move (.tmp 86), some (79, true)⟩, ⟨some 88, .fieldAddr 65
 (.tmp 6) 1, some (87, false)⟩, ⟨some 89, .fieldAddr 52 (.tmp 88) 2, some (87, false)⟩, ⟨some 90, .load 3 (.tmp 89), some (87, false)⟩, ⟨some 91, .fieldAddr 65 (.tmp 4) 1, some (87, false)⟩, ⟨some 92,
 .fieldAddr 52 (.tmp 91) 2, some (87, false)⟩, ⟨some 93, .load 3 (.tmp 92), some (87, false)⟩, ⟨some 94, .binOp .neq 3 (.tmp 90) (.tmp 93) 3, some (87, false)⟩, ⟨some 95, .pick (.tmp 87) (.const (.bool
 true)) (.tmp 94), some (79, true)⟩, ⟨some 96, .pick (.tmp 79) (.tmp 95) (.const (.bool false)), none⟩] ⟨70, 95, []⟩ []) (.cond (.tmp 96) (.seq (.reg [⟨some 2, .assign (.const (.bool false)), none⟩] ⟨1,
 0, []⟩ []) .ret) .skip))))) (.reg [⟨some 33, .move (.tmp 5), none⟩, ⟨some 34, .binOp .add 3 (.tmp 33) (.const (.int .i64 1)) 3, none⟩, ⟨some 5, .assign (.tmp 34), none⟩] ⟨33, 34, []⟩ []))))))))) (.reg
 [⟨some 12, .move (.tmp 3), none⟩, ⟨some 13, .binOp .add 3 (.tmp 12) (.const (.int .i64 1)) 3, none⟩, ⟨some 3, .assign (.tmp 13), none⟩] ⟨12, 13, []⟩ [])))))) (.seq (.reg [⟨some 2, .assign (.const
 (.bool true)), none⟩] ⟨1, 0, []⟩ []) .ret))
theorem z60 : FnF Tryz.prog Tryz.f60 97 c60 [.tmp 2] := ⟨by kernel_rfl, by kernel_rfl, by kernel_rfl, by kernel_rfl, by decide⟩
def c61 : AC :=
 .seq (.reg [⟨some 1, .box 27 (.tmp 0), none⟩, ⟨some 2, .assign (.const (.bool false)), none⟩] ⟨1, 0, []⟩ []) (.seq (.reg [⟨some 8, .fieldAddr 27 (.tmp 1) 3, none⟩, ⟨some 9, .load 3 (.tmp 8), none⟩,
 ⟨some 10, .makeSlice 39 (.tmp 9) (.tmp 9), none⟩, ⟨some 3, .assign (.tmp 10), none⟩] ⟨8, 10, []⟩ []) (.seq (.reg [⟨some 11, .move (.tmp 3), none⟩, ⟨some 12, .fieldAddr 27 (.tmp 1) 4, none⟩, ⟨some 13,
 .load 3 (.tmp 12), none⟩, ⟨some 14, .indexAddr 39 (.tmp 11) (.tmp 13), none⟩, ⟨none, .store 4 (.tmp 14) (.const (.bool true)), none⟩] ⟨11, 14, []⟩ []) (.seq (.seq (.reg [⟨some 4, .assign (.const (.int
 .i64 0)), none⟩] ⟨1, 0, []⟩ []) (.block 0 (.loop (.seq (.seq (.reg [⟨some 15, .move (.tmp 4), none⟩, ⟨some 16, .fieldAddr 27 (.tmp 1) 3, none⟩, ⟨some 17, .load 3 (.tmp 16), none⟩, ⟨some 18, .binOp .lss
 3 (.tmp 15) (.tmp 17) 3, none⟩] ⟨15, 17, []⟩ []) (.cond (.tmp 18) .skip (.exit 0))) (.seq (.block 1 (.seq (.reg [⟨some 5, .assign (.const (.int .i64 0)), none⟩] ⟨1, 0, []⟩ []) (.block 2 (.loop (.seq
 (.seq (.reg [⟨some 21, .move (.tmp 5), none⟩, ⟨some 22, .fieldAddr 27 (.tmp 1) 6, none⟩, ⟨some 23, .load 24 (.tmp 22), none⟩, ⟨some 24, .call ⟨.builtin .len, #[.tmp 23], #[24]⟩, none⟩, ⟨some 25, .binOp
 .lss 3 (.tmp 21) (.tmp 24) 3, none⟩] ⟨21, 24, []⟩ []) (.cond (.tmp 25) .skip (.exit 2))) (.seq (.block 3 (.drw [⟨⟨some 28, .move (.tmp 3), none⟩, []⟩, ⟨⟨some 29, .fieldAddr 27 (.tmp 1) 6, none⟩, []⟩,
 ⟨⟨some 30, .load 24 (.tmp 29), none⟩, [29]⟩, ⟨⟨some 31, .move (.tmp 5), none⟩, []⟩, ⟨⟨some 32, .indexAddr 24 (.tmp 30) (.tmp 31), none⟩, [30, 29, 31]⟩, ⟨⟨some 33, .fieldAddr 65 (.tmp 32) 2, none⟩, [32,
 30, 29, 31]⟩, ⟨⟨some 34, .load 3 (.tmp 33), none⟩, [33, 32, 30, 29, 31]⟩, ⟨⟨some 35, .move (.tmp 3), none⟩, []⟩, ⟨⟨some 36, .fieldAddr 27 (.tmp 1) 6, none⟩, []⟩, ⟨⟨some 37, .load 24 (.tmp 36), none⟩,
 [36]⟩, ⟨⟨some 38, .move (.tmp 5), none⟩, []⟩, ⟨⟨some 39, .indexAddr 24 (.tmp 37) (.tmp 38), none⟩, [37, 36, 38]⟩, ⟨⟨some 40, .fieldAddr 65 (.tmp 39) 2, none⟩, [39, 37, 36, 38]⟩, ⟨⟨some 41, .load 3
 (.tmp 40), none⟩, [40, 39, 37, 36, 38]⟩, ⟨⟨some 42, .indexAddr 39 (.tmp 35) (.tmp 41), none⟩, [35, 41, 40, 39, 37, 36, 38]⟩, ⟨⟨some 43, .load 4 (.tmp 42), none⟩, [42, 35, 41, 40, 39, 37, 36, 38]⟩,
 ⟨⟨some 44, .move (.tmp 43), none⟩, [43, 42, 35, 41, 40, 39, 37, 36, 38]⟩, ⟨⟨some 45, .move (.tmp 3), some (44, false)⟩, [44, 43, 42, 35, 41, 40, 39, 37, 36, 38]⟩, ⟨⟨some 46, .fieldAddr 27 (.tmp 1) 6,
 some (44, false)⟩, [44, 43, 42, 35, 41, 40, 39, 37, 36, 38]⟩, ⟨⟨some 47, .load 24 (.tmp 46), some (44, false)⟩, [46, 44, 43, 42, 35, 41, 40, 39, 37, 36, 38]⟩, ⟨⟨some 48, .move (.tmp 5), some (44,
 false)⟩, [44, 43, 42, 35, 41, 40, 39, 37, 36, 38]⟩, ⟨⟨some 49, .indexAddr 24 (.tmp 47) (.tmp 48), some (44, false)⟩, [47, 46, 48, 44, 43, 42, 35, 41, 40, 39, 37, 36, 38]⟩, ⟨⟨some 50, .fieldAddr 65
 (.tmp 49) 0, some (44, false)⟩, [49, 47, 46, 48, 44, 43, 42, 35, 41, 40, 39, 37, 36, 38]⟩, ⟨⟨some 51, .load 3 (.tmp 50), some (44, false)⟩, [50, 49, 47, 46, 48, 44, 43, 42, 35, 41, 40, 39, 37, 36,
 38]⟩, ⟨⟨some 52, .indexAddr 39 (.tmp 45) (.tmp 51), some (44, false)⟩, [45, 51, 50, 49, 47, 46, 48, 44, 43, 42, 35, 41, 40, 39, 37, 36, 38]⟩, ⟨⟨some 53, .load 4 (.tmp 52), some (44, false)⟩, [52, 45,
 51, 50, 49, 47, 46, 48, 44, 43, 42, 35, 41, 40, 39, 37, 36, 38]⟩, ⟨⟨some 54, .pick (.tmp 44) (.const (.bool true)) (.tmp 53), none⟩, [53, 52, 45, 51, 50, 49, 47, 46, 48, 44, 43, 42, 35, 41, 40, 39, 37,
 36, 38]⟩, ⟨⟨some 55, .indexAddr 39 (.tmp 28) (.tmp 34), none⟩, [28, 34, 33, 32, 30, 29, 31]⟩] [⟨⟨none, .store 4 (.tmp 55) (.tmp 54), none⟩, [55, 28, 34, 33, 32, 30, 29, 31, 54, 53, 52, 45, 51, 50, 49,
 47, 46, 48, 44, 43, 42, 35, 41, 40, 39, 37, 36, 38], []⟩] ⟨28, 55, []⟩ ⟨28, 55, []⟩ [])) (.reg [⟨some 26, .move (.tmp 5), none⟩, ⟨some 27, .binOp .add 3 (.tmp 26) (.const (.int .i64 1)) 3, none⟩, ⟨some
 5, .assign (.tmp 27), none⟩] ⟨26, 27, []⟩ []))))))) (.reg [⟨some 19, .move (.tmp 4), none⟩, ⟨some 20, .binOp .add 3 (.tmp 19) (.const (.int .i64 1)) 3, none⟩, ⟨some 4, .assign (.tmp 20), none⟩] ⟨19,
 20, []⟩ [])))))) (.seq (.reg [⟨some 56, .load 27 (.tmp 1), none⟩, ⟨some 57, .call ⟨.value (.func 102), #[.tmp 56], #[27]⟩, none⟩, ⟨some 6, .assign (.tmp 57), none⟩] ⟨56, 57, []⟩ []) (.seq (.seq (.reg
 [⟨some 7, .assign (.const (.int .i64 0)), none⟩] ⟨1, 0, []⟩ []) (.block 4 (.loop (.seq (.seq (.reg [⟨some 58, .move (.tmp 7), none⟩, ⟨some 59, .fieldAddr 27 (.tmp 1) 3, none⟩, ⟨some 60, .load 3 (.tmp
 59), none⟩, ⟨some 61, .binOp .lss 3 (.tmp 58) (.tmp 60) 3, none⟩] ⟨58, 60, []⟩ []) (.cond (.tmp 61) .skip (.exit 4))) (.seq (.block 5 (.seq (.reg [⟨some 64, .move (.tmp 3), none⟩, ⟨some 65, .move (.tmp
 7), none⟩, ⟨some 66, .indexAddr 39 (.tmp 64) (.tmp 65), none⟩, ⟨some 67, .load 4 (.tmp 66), none⟩, ⟨some 68, .unOp .not 4 (.tmp 67), none⟩, ⟨some 69, .move (.tmp 68), none⟩, ⟨some 70, .move (.tmp 6),
 some (69, false)⟩, ⟨some 71, .move (.tmp 7), some (69, false)⟩, ⟨some 72, .indexAddr 37 (.tmp 70) (.tmp 71), some (69, false)⟩, ⟨some 73, .load 3 (.tmp 72), some (69, false)⟩, ⟨some 74, .binOp .lss 3
 (.tmp 73) (.const (.int .i64 0)) 3, some (69, false)⟩, ⟨some 75, .pick (.tmp 69) (.const (.bool true)) (.tmp 74), none⟩] ⟨64, 74, []⟩ []) (.cond (.tmp 75) (.seq (.reg [⟨some 2, .assign (.const (.bool
 false)), none⟩] ⟨1, 0, []⟩ []) .ret) .skip))) (.reg [⟨some 62, .move (.tmp 7), none⟩, ⟨some 63, .binOp .add 3 (.tmp 62) (.const (.int .i64 1)) 3, none⟩, ⟨some 7, .assign (.tmp 63), none⟩] ⟨62, 63, []⟩
 [])))))) (.seq (.reg [⟨some 76, .load 27 (.tmp 1), none⟩, ⟨some 77, .fieldAddr 27 (.tmp 1) 5, none⟩, ⟨some 78, .load 3 (.tmp 77), none⟩, ⟨some 79, .call ⟨.value (.func 52), #[.tmp 76, .tmp 78], #[27,
 3]⟩, none⟩, ⟨some 80, .call ⟨.builtin .len, #[.tmp 79], #[37]⟩, none⟩, ⟨some 81, .binOp .eql 3 (.tmp 80) (.const (.int .i64 0)) 3, none⟩, ⟨some 2, .assign (.tmp 81), none⟩] ⟨76, 81, []⟩ []) .ret))))))
theorem z61 : FnF Tryz.prog Tryz.f61 82 c61 [.tmp 2] := ⟨by kernel_rfl, by kernel_rfl, by kernel_rfl, by kernel_rfl, by decide⟩
def c62 : AC :=
 .seq (.reg [⟨some 1, .box 27 (.tmp 0), none⟩, ⟨some 2, .assign (.const (.bool false)), none⟩] ⟨1, 0, []⟩ []) (.seq (.seq (.reg [⟨some 3, .assign (.const (.int .i64 0)), none⟩] ⟨1, 0, []⟩ []) (.block 0
 (.loop (.seq (.seq (.reg [⟨some 5, .move (.tmp 3), none⟩, ⟨some 6, .fieldAddr 27 (.tmp 1) 7, none⟩, ⟨some 7, .load 25 (.tmp 6), none⟩, ⟨some 8, .call ⟨.builtin .len, #[.tmp 7], #[25]⟩, none⟩, ⟨some 9,
 .binOp .lss 3 (.tmp 5) (.tmp 8) 3, none⟩] ⟨5, 8, []⟩ []) (.cond (.tmp 9) .skip (.exit 0))) (.seq (.block 1 (.seq (.reg [⟨some 12, .fieldAddr 27 (.tmp 1) 7, none⟩, ⟨some 13, .load 25 (.tmp 12), none⟩,
 ⟨some 14, .move (.tmp 3), none⟩, ⟨some 15, .indexAddr 25 (.tmp 13) (.tmp 14), none⟩, ⟨some 16, .load 118 (.tmp 15), none⟩, ⟨some 4, .alloc 118, none⟩, ⟨none, .store 118 (.tmp 4) (.tmp 16), none⟩] ⟨12,
 16, []⟩ []) (.seq (.drw [⟨⟨some 17, .load 27 (.tmp 1), none⟩, []⟩, ⟨⟨some 18, .fieldAddr 118 (.tmp 4) 0, none⟩, []⟩, ⟨⟨some 19, .load 3 (.tmp 18), none⟩, [18]⟩, ⟨⟨some 20, .call ⟨.value (.func 101),
 #[.tmp 17, .tmp 19], #[27, 3]⟩, none⟩, [17, 19, 18]⟩, ⟨⟨some 21, .unOp .not 4 (.tmp 20), none⟩, [20, 17, 19, 18]⟩, ⟨⟨some 22, .move (.tmp 21), none⟩, [21, 20, 17, 19, 18]⟩, ⟨⟨some 23, .move (.tmp 3),
 some (22, false)⟩, [22, 21, 20, 17, 19, 18]⟩, ⟨⟨some 24, .binOp .gtr 3 (.tmp 23) (.const (.int .i64 0)) 3, some (22, false)⟩, [23, 22, 21, 20, 17, 19, 18]⟩, ⟨⟨some 25, .move (.tmp 24), some (22,
 false)⟩, [24, 23, 22, 21, 20, 17, 19, 18]⟩, ⟨⟨some 26, .fieldAddr 118 (.tmp 4) 0, some (25, true)⟩, [25, 24, 23, 22, 21, 20, 17, 19, 18]⟩, ⟨⟨some 27, .load 3 (.tmp 26), some (25, true)⟩, [26, 25, 24,
 23, 22, 21, 20, 17, 19, 18]⟩, ⟨⟨some 28, .fieldAddr 27 (.tmp 1) 7, some (25, true)⟩, [25, 24, 23, 22, 21, 20, 17, 19, 18]⟩, ⟨⟨some 29, .load 25 (.tmp 28), some (25, true)⟩, [28, 25, 24, 23, 22, 21, 20,
 17, 19, 18]⟩, ⟨⟨some 30, .move (.tmp 3), some (25, true)⟩, [25, 24, 23, 22, 21, 20, 17, 19, 18]⟩, ⟨⟨some 31, .binOp .sub 3 (.tmp 30) (.const (.int .i64 1)) 3, some (25, true)⟩, [30, 25, 24, 23, 22, 21,
 20, 17, 19, 18]⟩, ⟨⟨some 32, .indexAddr 25 (.tmp 29) (.tmp 31), some (25, true)⟩, [29, 28, 31, 30, 25, 24, 23, 22, 21, 20, 17, 19, 18]⟩, ⟨⟨some 33, .fieldAddr 118 (.tmp 32) 0, some (25, true)⟩, [32,
 29, 28, 31, 30, 25, 24, 23, 22, 21, 20, 17, 19, 18]⟩, ⟨⟨some 34, .load 3 (.tmp 33), some (25, true)⟩, [33, 32, 29, 28, 31, 30, 25, 24, 23, 22, 21, 20, 17, 19, 18]⟩, ⟨⟨some 35, .binOp .leq 3 (.tmp 27)
 (.tmp 34) 3, some (25, true)⟩, [27, 26, 34, 33, 32, 29, 28, 31, 30, 25, 24, 23, 22, 21, 20, 17, 19, 18]⟩, ⟨⟨some 36, .pick (.tmp 25) (.tmp 35) (.const (.bool false)), some (22, false)⟩, [35, 27, 26,
 34, 33, 32, 29, 28, 31, 30, 25, 24, 23, 22, 21, 20, 17, 19, 18]⟩, ⟨⟨some 37, .pick (.tmp 22) (.const (.bool true)) (.tmp 36), none⟩, [36, 35, 27, 26, 34, 33, 32, 29, 28, 31, 30, 25, 24, 23, 22, 21, 20,
 17, 19, 18]⟩, ⟨⟨some 38, .move (.tmp 37), none⟩, [37, 36, 35, 27, 26, 34, 33, 32, 29, 28, 31, 30, 25, 24, 23, 22, 21, 20, 17, 19, 18]⟩, ⟨⟨some 39, .fieldAddr 118 (.tmp 4) 1, some (38, false)⟩, [38, 37,
 36, 35, 27, 26, 34, 33, 32, 29, 28, 31, 30, 25, 24, 23, 22, 21, 20, 17, 19, 18]⟩, ⟨⟨some 40, .load 3 (.tmp 39), some (38, false)⟩, [39, 38, 37, 36, 35, 27, 26, 34, 33, 32, 29, 28, 31, 30, 25, 24, 23,
 22, 21, 20, 17, 19, 18]⟩, ⟨⟨some 41, .binOp .lss 3 (.tmp 40) (.const (.int .i64 1)) 3, some (38, false)⟩, [40, 39, 38, 37, 36, 35, 27, 26, 34, 33, 32, 29, 28, 31, 30, 25, 24, 23, 22, 21, 20, 17, 19,
 18]⟩, ⟨⟨some 42, .pick (.tmp 38) (.const (.bool true)) (.tmp 41), none⟩, [41, 40, 39, 38, 37, 36, 35, 27, 26, 34, 33, 32, 29, 28, 31, 30, 25, 24, 23, 22, 21, 20, 17, 19, 18]⟩, ⟨⟨some 43, .move (.tmp
 42), none⟩, [42, 41, 40, 39, 38, 37, 36, 35, 27, 26, 34, 33, 32, 29, 28, 31, 30, 25, 24, 23, 22, 21, 20, 17, 19, 18]⟩, ⟨⟨some 44, .fieldAddr 118 (.tmp 4) 1, some (43, false)⟩, [43, 42, 41, 40, 39, 38,
 37, 36, 35, 27, 26, 34, 33, 32, 29, 28, 31, 30, 25, 24, 23, 22, 21, 20, 17, 19, 18]⟩, ⟨⟨some 45, .load 3 (.tmp 44), some (43, false)⟩, [44, 43, 42, 41, 40, 39, 38, 37, 36, 35, 27, 26, 34, 33, 32, 29,
 28, 31, 30, 25, 24, 23, 22, 21, 20, 17, 19, 18]⟩, ⟨⟨some 46, .binOp .gtr 3 (.tmp 45) (.const (.int .i64 1000)) 3, some (43, false)⟩, [45, 44, 43, 42, 41, 40, 39, 38, 37, 36, 35, 27, 26, 34, 33, 32, 29,
 28, 31, 30, 25, 24, 23, 22, 21, 20, 17, 19, 18]⟩, ⟨⟨some 47, .pick (.tmp 43) (.const (.bool true)) (.tmp 46), none⟩, [46, 45, 44, 43, 42, 41, 40, 39, 38, 37, 36, 35, 27, 26, 34, 33, 32, 29, 28, 31, 30,
 25, 24, 23, 22, 21, 20, 17, 19, 18]⟩, ⟨⟨some 48, .move (.tmp 47), none⟩, [47, 46, 45, 44, 43, 42, 41, 40, 39, 38, 37, 36, 35, 27, 26, 34, 33, 32, 29, 28, 31, 30, 25, 24, 23, 22, 21, 20, 17, 19, 18]⟩,
 ⟨⟨some 49, .fieldAddr 118 (.tmp 4) 2, some (48, false)⟩, [48, 47, 46, 45, 44, 43, 42, 41, 40, 39, 38, 37, 36, 35, 27, 26, 34, 33, 32, 29, 28, 31, 30, 25, 24, 23, 22, 21, 20, 17, 19, 18]⟩, ⟨⟨some 50,
 .load 3 (.tmp 49), some (48, false)⟩, [49, 48, 47, 46, 45, 44, 43, 42, 41, 40, 39, 38, 37, 36, 35, 27, 26, 34, 33, 32, 29, 28, 31, 30, 25, 24, 23, 22, 21, 20, 17, 19, 18]⟩, ⟨⟨some 51, .binOp .lss 3
 (.tmp 50) (.const (.int .i64 0)) 3, some (48, false)⟩, [50, 49, 48, 47, 46, 45, 44, 43, 42, 41, 40, 39, 38, 37, 36, 35, 27, 26, 34, 33, 32, 29, 28, 31, 30, 25, 24, 23, 22, 21, 20, 17, 19, 18]⟩, ⟨⟨some
 52, .pick (.tmp 48) (.const (.bool true)) (.tmp 51), none⟩, [51, 50, 49, 48, 47, 46, 45, 44, 43, 42, 41, 40, 39, 38, 37, 36, 35, 27, 26, 34, 33, 32, 29, 28, 31, 30, 25, 24, 23, 22, 21, 20, 17, 19,
 18]⟩, ⟨⟨some 53, .move (.tmp 52), none⟩, [52, 51, 50, 49, 48, 47, 46, 45, 44, 43, 42, 41, 40, 39, 38, 37, 36, 35, 27, 26, 34, 33, 32, 29, 28, 31, 30, 25, 24, 23, 22, 21, 20, 17, 19, 18]⟩, ⟨⟨some 54,
 .fieldAddr 118 (.tmp 4) 2, some (53, false)⟩, [53, 52, 51, 50, 49, 48, 47, 46, 45, 44, 43, 42, 41, 40, 39, 38, 37, 36, 35, 27, 26, 34, 33, 32, 29, 28, 31, 30, 25, 24, 23, 22, 21, 20, 17, 19, 18]⟩,
 ⟨⟨some 55, .load 3 (.tmp 54), some (53, false)⟩, [54, 53, 52, 51, 50, 49, 48, 47, 46, 45, 44, 43, 42, 41, 40, 39, 38, 37, 36, 35, 27, 26, 34, 33, 32, 29, 28, 31, 30, 25, 24, 23, 22, 21, 20, 17, 19,
 18]⟩, ⟨⟨some 56, .fieldAddr 27 (.tmp 1) 6, some (53, false)⟩, [53, 52, 51, 50, 49, 48, 47, 46, 45, 44, 43, 42, 41, 40, 39, 38, 37, 36, 35, 27, 26, 34, 33, 32, 29, 28, 31, 30, 25, 24, 23, 22, 21, 20,
 17, 19, 18]⟩, ⟨⟨some 57, .load 24 (.tmp 56), some (53, false)⟩, [56, 53, 52, 51, 50, 49, 48, 47, 46, 45, 44, 43, 42, 41, 40, 39, 38, 37, 36, 35, 27, 26, 34, 33, 32, 29, 28, 31, 30, 25, 24, 23, 22, 21,
 20, 17, 19, 18]⟩, ⟨⟨some 58, .call ⟨.builtin .len, #[.tmp 57], #[24]⟩, some (53, false)⟩, [57, 56, 53, 52, 51, 50, 49, 48, 47, 46, 45, 44, 43, 42, 41, 40, 39, 38, 37, 36, 35, 27, 26, 34, 33, 32, 29,
 28, 31, 30, 25, 24, 23, 22, 21, 20, 17, 19, 18]⟩, ⟨⟨some 59, .binOp .geq 3 (.tmp 55) (.tmp 58) 3, some (53, false)⟩, [55, 54, 58, 57, 56, 53, 52, 51, 50, 49, 48, 47, 46, 45, 44, 43, 42, 41, 40, 39, 38,
 37, 36, 35, 27, 26, 34, 33, 32, 29, 28, 31, 30, 25, 24, 23, 22, 21, 20, 17, 19, 18]⟩, ⟨⟨some 60, .pick (.tmp 53) (.const (.bool true)) (.tmp 59), none⟩, [59, 55, 54, 58, 57, 56, 53, 52, 51, 50, 49, 48,
 47, 46, 45, 44, 43, 42, 41, 40, 39, 38, 37, 36, 35, 27, 26, 34, 33, 32, 29, 28, 31, 30, 25, 24, 23, 22, 21, 20, 17, 19, 18]⟩, ⟨⟨some 61, .move (.tmp 60), none⟩, [60, 59, 55, 54, 58, 57, 56, 53, 52, 51,
 50, 49, 48, 47, 46, 45, 44, 43, 42, 41, 40, 39, 38, 37, 36, 35, 27, 26, 34, 33, 32, 29, 28, 31, 30, 25, 24, 23, 22, 21, 20, 17, 19, 18]⟩, ⟨⟨some 62, .fieldAddr 27 (.tmp 1) 6, some (61, false)⟩, [61,
 60, 59, 55, 54, 58, 57, 56, 53, 52, 51, 50, 49, 48, 47, 46, 45, 44, 43, 42, 41, 40, 39, 38, 37, 36, 35, 27, 26, 34, 33, 32, 29, 28, 31, 30, 25, 24, 23, 22, 21, 20, 17, 19, 18]⟩, ⟨⟨some 63, .load 24
 (.tmp 62), some (61, false)⟩, [62, 61, 60, 59, 55, 54, 58, 57, 56, 53, 52, 51, 50, 49, 48, 47, 46, 45, 44, 43, 42, 41, 40, 39, 38, 37, 36, 35, 27, 26, 34, 33, 32, 29, 28, 31, 30, 25, 24, 23, 22, 21,
 20, 17, 19, 18]⟩, ⟨⟨some 64, .fieldAddr 118 (.tmp 4) 2, some (61, false)⟩, [61, 60, 59, 55, 54, 58, 57, 56, 53, 52, 51, 50, 49, 48, 47, 46, 45, 44, 43, 42, 41, 40, 39, 38, 37, 36, 35, 27, 26, 34, 33,
 32, 29, 28, 31, 30, 25, 24, 23, 22, 21, 20, 17, 19, 18]⟩, ⟨⟨some 65, .load 3 (.tmp 64), some (61, false)⟩, [64, 61, 60, 59, 55, 54, 58, 57, 56, 53, 52, 51, 50, 49, 48, 47, 46, 45, 44, 43, 42, 41, 40,
 39, 38, 37, 36, 35, 27, 26, 34, 33, 32, 29, 28, 31, 30, 25, 24, 23, 22, 21, 20, 17, 19, 18]⟩, ⟨⟨some 66, .indexAddr 24 (.tmp 63) (.tmp 65), some (61, false)⟩, [63, 62, 65, 64, 61, 60, 59, 55, 54, 58,
 57, 56, 53, 52, 51, 50, 49, 48, 47, 46, 45, 44, 43, 42, 41, 40, 39, 38, 37, 36, 35, 27, 26, 34, 33, 32, 29, 28, 31, 30, 25, 24, 23, 22, 21, 20, 17, 19, 18]⟩, ⟨⟨some 67, .fieldAddr 65 (.tmp 66) 0, some
 (61, false)⟩, [66, 63, 62, 65, 64, 61, 60, 59, 55, 54, 58, 57, 56, 53, 52, 51, 50, 49, 48, 47, 46, 45, 44, 43, 42, 41, 40, 39, 38, 37, 36, 35, 27, 26, 34, 33, 32, 29, 28, 31, 30, 25, 24, 23, 22, 21,
 20, 17, 19, 18]⟩, ⟨⟨some 68, .load 3 (.tmp 67), some (61, false)⟩, [67, 66, 63, 62, 65, 64, 61, 60, 59, 55, 54, 58, 57, 56, 53, 52, 51, 50, 49, 48, 47, 46, 45, 44, 43, 42, 41, 40, 39, 38, 37, 36, 35,
 27, 26, 34, 33, 32, 29, 28, 31, 30, 25, 24, 23, 22, 21, 20, 17, 19, 18]⟩, ⟨⟨some 69, .fieldAddr 118 (.tmp 4) 0, some (61, false)⟩, [61, 60, 59, 55, 54, 58, 57, 56, 53, 52, 51, 50, 49, 48, 47, 46, 45,
 44, 43, 42, 41, 40, 39, 38, 37, 36, 35, 27, 26, 34, 33, 32, 29, 28, 31, 30, 25, 24, 23, 22, 21, 20, 17, 19, 18]⟩, ⟨⟨some 70, .load 3 (.tmp 69), some (61, false)⟩, [69, 61, 60, 59, 55, 54, 58, 57, 56,
 53, 52, 51, 50, 49, 48, 47, 46, 45, 44, 43, 42, 41, 40, 39, 38, 37, 36, 35, 27, 26, 34, 33, 32, 29, 28, 31, 30, 25, 24, 23, 22, 21, 20, 17, 19, 18]⟩, ⟨⟨some 71, .binOp .neq 3 (.tmp 68) (.tmp 70) 3,
 some (61, false)⟩, [68, 67, 66, 63, 62, 65, 64, 70, 69, 61, 60, 59, 55, 54, 58, 57, 56, 53, 52, 51, 50, 49, 48, 47, 46, 45, 44, 43, 42, 41, 40, 39, 38, 37, 36, 35, 27, 26, 34, 33, 32, 29, 28, 31, 30,
 25, 24, 23, 22, 21, 20, 17, 19, 18]⟩, ⟨⟨some 72, .pick (.tmp 61) (.const (.bool true)) (.tmp 71), none⟩, [71, 68, 67, 66, 63, 62, 65, 64, 70, 69, 61, 60, 59, 55, 54, 58, 57, 56, 53, 52, 51, 50, 49, 48,
 47, 46, 45, 44, 43, 42, 41, 40, 39, 38, 37, 36, 35, 27, 26, 34, 33, 32, 29, 28, 31, 30, 25, 24, 23, 22, 21, 20, 17, 19, 18]⟩, ⟨⟨some 73, .move (.tmp 72), none⟩, [72, 71, 68, 67, 66, 63, 62, 65, 64, 70,
 69, 61, 60, 59, 55, 54, 58, 57, 56, 53, 52, 51, 50, 49, 48, 47, 46, 45, 44, 43, 42, 41, 40, 39, 38, 37, 36, 35, 27, 26, 34, 33, 32, 29, 28, 31, 30, 25, 24, 23, 22, 21, 20, 17, 19, 18]⟩, ⟨⟨some 74,
 .fieldAddr 27 (.tmp 1) 6, some (73, false)⟩, [73, 72, 71, 68, 67, 66, 63, 62, 65, 64, 70, 69, 61, 60, 59, 55, 54, 58, 57, 56, 53, 52, 51, 50, 49, 48, 47, 46, 45, 44, 43, 42, 41, 40, 39, 38, 37, 36, 35,
 27, 26, 34, 33, 32, 29, 28, 31, 30, 25, 24, 23, 22, 21, 20, 17, 19, 18]⟩, ⟨⟨some 75, .load 24 (.tmp 74), some (73, false)⟩, [74, 73, 72, 71, 68, 67, 66, 63, 62, 65, 64, 70, 69, 61, 60, 59, 55, 54, 58,
 57, 56, 53, 52, 51, 50, 49, 48, 47, 46, 45, 44, 43, 42, 41, 40, 39, 38, 37, 36, 35, 27, 26, 34, 33, 32, 29, 28, 31, 30, 25, 24, 23, 22, 21, 20, 17, 19, 18]⟩, ⟨⟨some 76, .fieldAddr 118 (.tmp 4) 2, some
 (73, false)⟩, [73, 72, 71, 68, 67, 66, 63, 62, 65, 64, 70, 69, 61, 60, 59, 55, 54, 58, 57, 56, 53, 52, 51, 50, 49, 48, 47, 46, 45, 44, 43, 42, 41, 40, 39, 38, 37, 36, 35, 27, 26, 34, 33, 32, 29, 28,
 31, 30, 25, 24, 23, 22, 21, 20, 17, 19, 18]⟩, ⟨⟨some 77, .load 3 (.tmp 76), some (73, false)⟩, [76, 73, 72, 71, 68, 67, 66, 63, 62, 65, 64, 70, 69, 61, 60, 59, 55, 54, 58, 57, 56, 53, 52, 51, 50, 49,
 48, 47, 46, 45, 44, 43, 42, 41, 40, 39, 38, 37, 36, 35, 27, 26, 34, 33, 32, 29, 28, 31, 30, 25, 24, 23, 22, 21, 20, 17, 19, 18]⟩, ⟨⟨some 78, .indexAddr 24 (.tmp 75) (.tmp 77), some (73, false)⟩, [75,
 74, 77, 76, 73, 72, 71, 68, 67, 66, 63, 62, 65, 64, 70, 69, 61, 60, 59, 55, 54, 58, 57, 56, 53, 52, 51, 50, 49, 48, 47, 46, 45, 44, 43, 42, 41, 40, 39, 38, 37, 36, 35, 27, 26, 34, 33, 32, 29, 28, 31,
 30, 25, 24, 23, 22, 21, 20, 17, 19, 18]⟩, ⟨⟨some 79, .fieldAddr 65 (.tmp 78) 3, some (73, false)⟩, [78, 75, 74, 77, 76, 73, 72, 71, 68, 67, 66, 63, 62, 65, 64, 70, 69, 61, 60, 59, 55, 54, 58, 57, 56,
 53, 52, 51, 50, 49, 48, 47, 46, 45, 44, 43, 42, 41, 40, 39, 38, 37, 36, 35, 27, 26, 34, 33, 32, 29, 28, 31, 30, 25, 24, 23, 22, 21, 20, 17, 19, 18]⟩, ⟨⟨some 80, .load 4 (.tmp 79), some (73, false)⟩,
 [79, 78, 75, 74, 77, 76, 73, 72, 71, 68, 67, 66, 63, 62, 65, 64, 70, 69, 61, 60, 59, 55, 54, 58, 57, 56, 53, 52, 51, 50, 49, 48, 47, 46, 45, 44, 43, 42, 41, 40, 39, 38, 37, 36, 35, 27, 26, 34, 33, 32,
 29, 28, 31, 30, 25, 24, 23, 22, 21, 20, 17, 19, 18]⟩, ⟨⟨some 81, .pick (.tmp 73) (.const (.bool true)) (.tmp 80), none⟩, [80, 79, 78, 75, 74, 77, 76, 73, 72, 71, 68, 67, 66, 63, 62, 65, 64, 70, 69, 61,
 60, 59, 55, 54, 58, 57, 56, 53, 52, 51, 50, 49, 48, 47, 46, 45, 44, 43, 42, 41, 40, 39, 38, 37, 36, 35, 27, 26, 34, 33, 32, 29, 28, 31, 30, 25, 24, 23, 22, 21, 20, 17, 19, 18]⟩] [] ⟨17, 81, []⟩ ⟨17,
 80, []⟩ []) (.cond (.tmp 81) (.seq (.reg [⟨some 2, .assign (.const (.bool false)), none⟩] ⟨1, 0, []⟩ []) .ret) .skip)))) (.reg [⟨some 10, .move (.tmp 3), none⟩, ⟨some 11, .binOp .add 3 (.tmp 10)
 (.const (.int .i64 1)) 3, none⟩, ⟨some 3, .assign (.tmp 11), none⟩] ⟨10, 11, []⟩ [])))))) (.seq (.reg [⟨some 2, .assign (.const (.bool true)), none⟩] ⟨1, 0, []⟩ []) .ret))
theorem z62 : FnF Tryz.prog Tryz.f62 82 c62 [.tmp 2] := ⟨by kernel_rfl, by kernel_rfl, by kernel_rfl, by kernel_rfl, by decide⟩
def c66 : AC :=
 .seq (.reg [⟨some 4, .assign (.const (.int .i64 0)), none⟩] ⟨1, 0, []⟩ []) (.seq (.reg [⟨some 7, .move (.tmp 0), none⟩, ⟨some 8, .call ⟨.value (.func 104), #[.tmp 7], #[3]⟩, none⟩, ⟨some 5, .assign
 (.tmp 8), none⟩] ⟨7, 8, []⟩ []) (.seq (.reg [⟨some 9, .move (.tmp 1), none⟩, ⟨some 10, .call ⟨.value (.func 104), #[.tmp 9], #[3]⟩, none⟩, ⟨some 6, .assign (.tmp 10), none⟩] ⟨9, 10, []⟩ []) (.seq (.seq
 (.reg [⟨some 11, .move (.tmp 5), none⟩] ⟨1, 0, []⟩ []) (.cond (.tmp 11) (.seq (.seq (.reg [⟨some 12, .move (.tmp 6), none⟩] ⟨1, 0, []⟩ []) (.cond (.tmp 12) (.seq (.reg [⟨some 4, .assign (.const (.int
 .i64 0)), none⟩] ⟨1, 0, []⟩ []) .ret) .skip)) (.seq (.reg [⟨some 4, .assign (.const (.int .i64 (-1))), none⟩] ⟨1, 0, []⟩ []) .ret)) .skip)) (.seq (.seq (.reg [⟨some 13, .move (.tmp 6), none⟩] ⟨1, 0,
 []⟩ []) (.cond (.tmp 13) (.seq (.reg [⟨some 4, .assign (.const (.int .i64 1)), none⟩] ⟨1, 0, []⟩ []) .ret) .skip)) (.seq (.seq (.reg [⟨some 14, .move (.tmp 0), none⟩, ⟨some 15, .move (.tmp 1), none⟩,
 ⟨some 16, .binOp .lss 3 (.tmp 14) (.tmp 15) 3, none⟩] ⟨14, 15, []⟩ []) (.cond (.tmp 16) (.seq (.reg [⟨some 4, .assign (.const (.int .i64 (-1))), none⟩] ⟨1, 0, []⟩ []) .ret) .skip)) (.seq (.seq (.reg
 [⟨some 17, .move (.tmp 0), none⟩, ⟨some 18, .move (.tmp 1), none⟩, ⟨some 19, .binOp .gtr 3 (.tmp 17) (.tmp 18) 3, none⟩] ⟨17, 18, []⟩ []) (.cond (.tmp 19) (.seq (.reg [⟨some 4, .assign (.const (.int
 .i64 1)), none⟩] ⟨1, 0, []⟩ []) .ret) .skip)) (.seq (.reg [⟨some 4, .assign (.const (.int .i64 0)), none⟩] ⟨1, 0, []⟩ []) .ret)))))))
theorem z66 : FnF Tryz.prog Tryz.f66 20 c66 [.tmp 4] := ⟨by kernel_rfl, by kernel_rfl, by kernel_rfl, by kernel_rfl, by decide⟩
def c67 : AC :=
 .seq (.reg [⟨some 1, .box 27 (.tmp 0), none⟩, ⟨some 2, .assign (.const (.bool false)), none⟩] ⟨1, 0, []⟩ []) (.seq (.seq (.reg [⟨some 5, .fieldAddr 27 (.tmp 1) 0, none⟩, ⟨some 6, .load 9 (.tmp 5),
 none⟩, ⟨some 7, .call ⟨.value (.func 105), #[.tmp 6], #[9]⟩, none⟩, ⟨some 8, .unOp .not 4 (.tmp 7), none⟩, ⟨some 9, .move (.tmp 8), none⟩, ⟨some 10, .fieldAddr 27 (.tmp 1) 1, some (9, false)⟩, ⟨some
 11, .load 22 (.tmp 10), some (9, false)⟩, ⟨some 12, .call ⟨.builtin .len, #[.tmp 11], #[22]⟩, some (9, false)⟩, ⟨some 13, .binOp .lss 3 (.tmp 12) (.const (.int .i64 1)) 3, some (9, false)⟩, ⟨some 14,
 .pick (.tmp 9) (.const (.bool true)) (.tmp 13), none⟩, ⟨some 15, .move (.tmp 14), none⟩, ⟨some 16, .fieldAddr 27 (.tmp 1) 1, some (15, false)⟩, ⟨some 17, .load 22 (.tmp 16), some (15, false)⟩, ⟨some
 18, .call ⟨.builtin .len, #[.tmp 17], #[22]⟩, some (15, false)⟩, ⟨some 19, .binOp .gtr 3 (.tmp 18) (.const (.int .i64 6)) 3, some (15, false)⟩, ⟨some 20, .pick (.tmp 15) (.const (.bool true)) (.tmp
 19), none⟩] ⟨5, 19, []⟩ []) (.cond (.tmp 20) (.seq (.reg [⟨some 2, .assign (.const (.bool false)), none⟩] ⟨1, 0, []⟩ []) .ret) .skip)) (.seq (.seq (.reg [⟨some 21, .fieldAddr 27 (.tmp 1) 1, none⟩,
 ⟨some 22, .load 22 (.tmp 21), none⟩, ⟨some 23, .call ⟨.builtin .len, #[.tmp 22], #[22]⟩, none⟩, ⟨some 24, .move (.const (.int .i64 0)), none⟩] ⟨21, 21, []⟩ []) (.block 0 (.loop (.seq (.reg [⟨some 25,
 .binOp .lss 3 (.tmp 24) (.tmp 23) 3, none⟩] ⟨1, 0, []⟩ []) (.seq (.cond (.tmp 25) .skip (.exit 0)) (.seq (.block 1 (.seq (.reg [⟨some 26, .move (.tmp 24), none⟩, ⟨some 27, .indexAddr 22 (.tmp 22) (.tmp
 24), none⟩, ⟨some 28, .load 9 (.tmp 27), none⟩, ⟨some 3, .assign (.tmp 26), none⟩, ⟨some 4, .assign (.tmp 28), none⟩] ⟨26, 28, []⟩ []) (.seq (.reg [⟨some 29, .move (.tmp 4), none⟩, ⟨some 30, .call
 ⟨.value (.func 105), #[.tmp 29], #[9]⟩, none⟩, ⟨some 31, .unOp .not 4 (.tmp 30), none⟩, ⟨some 32, .move (.tmp 31), none⟩, ⟨some 33, .fieldAddr 27 (.tmp 1) 1, some (32, false)⟩, ⟨some 34, .load 22 (.tmp
 33), some (32, false)⟩, ⟨some 35, .move (.tmp 3), some (32, false)⟩, ⟨some 36, .slice 22 (.tmp 34) none (some (.tmp 35)) none, some (32, false)⟩, ⟨some 37, .move (.tmp 4), some (32, false)⟩, ⟨some 38,
 .call ⟨.value (.func 106), #[.tmp 36, .tmp 37], #[22, 9]⟩, some (32, false)⟩, ⟨some 39, .pick (.tmp 32) (.const (.bool true)) (.tmp 38), none⟩] ⟨29, 38, []⟩ []) (.cond (.tmp 39) (.seq (.reg [⟨some 2,
 .assign (.const (.bool false)), none⟩] ⟨1, 0, []⟩ []) .ret) .skip)))) (.reg [⟨some 40, .binOp .add 3 (.tmp 24) (.const (.int .i64 1)) 3, none⟩, ⟨some 24, .move (.tmp 40), none⟩] ⟨40, 40, []⟩ [])))))))
 (.seq (.reg [⟨some 2, .assign (.const (.bool true)), none⟩] ⟨1, 0, []⟩ []) .ret)))
theorem z67 : FnF Tryz.prog Tryz.f67 41 c67 [.tmp 2] := ⟨by kernel_rfl, by kernel_rfl, by kernel_rfl, by kernel_rfl, by decide⟩
def c68 : AC :=
 .seq (.reg [⟨some 1, .box 27 (.tmp 0), none⟩, ⟨some 2, .assign (.const (.bool false)), none⟩] ⟨1, 0, []⟩ []) (.seq (.seq (.reg [⟨some 6, .fieldAddr 27 (.tmp 1) 3, none⟩, ⟨some 7, .load 3 (.tmp 6),
 none⟩, ⟨some 8, .binOp .lss 3 (.tmp 7) (.const (.int .i64 1)) 3, none⟩, ⟨some 9, .move (.tmp 8), none⟩, ⟨some 10, .fieldAddr 27 (.tmp 1) 3, some (9, false)⟩, ⟨some 11, .load 3 (.tmp 10), some (9,
 false)⟩, ⟨some 12, .binOp .gtr 3 (.tmp 11) (.const (.int .i64 200)) 3, some (9, false)⟩, ⟨some 13, .pick (.tmp 9) (.const (.bool true)) (.tmp 12), none⟩, ⟨some 14, .move (.tmp 13), none⟩, ⟨some 15,
 .fieldAddr 27 (.tmp 1) 4, some (14, false)⟩, ⟨some 16, .load 3 (.tmp 15), some (14, false)⟩, ⟨some 17, .fieldAddr 27 (.tmp 1) 5, some (14, false)⟩, ⟨some 18, .load 3 (.tmp 17), some (14, false)⟩, ⟨some
 19, .call ⟨.builtin .min, #[.tmp 16, .tmp 18], #[3, 3]⟩, some (14, false)⟩, ⟨some 20, .binOp .lss 3 (.tmp 19) (.const (.int .i64 0)) 3, some (14, false)⟩, ⟨some 21, .pick (.tmp 14) (.const (.bool
 true)) (.tmp 20), none⟩, ⟨some 22, .move (.tmp 21), none⟩, ⟨some 23, .fieldAddr 27 (.tmp 1) 4, some (22, false)⟩, ⟨some 24, .load 3 (.tmp 23), some (22, false)⟩, ⟨some 25, .fieldAddr 27 (.tmp 1) 5,
 some (22, false)⟩, ⟨some 26, .load 3 (.tmp 25), some (22, false)⟩, ⟨some 27, .call ⟨.builtin .max, #[.tmp 24, .tmp 26], #[3, 3]⟩, some (22, false)⟩, ⟨some 28, .fieldAddr 27 (.tmp 1) 3, some (22,
 false)⟩, ⟨some 29, .load 3 (.tmp 28), some (22, false)⟩, ⟨some 30, .binOp .geq 3 (.tmp 27) (.tmp 29) 3, some (22, false)⟩, ⟨some 31, .pick (.tmp 22) (.const (.bool true)) (.tmp 30), none⟩, ⟨some 32,
 .move (.tmp 31), none⟩, ⟨some 33, .fieldAddr 27 (.tmp 1) 6, some (32, false)⟩, ⟨some 34, .load 24 (.tmp 33), some (32, false)⟩, ⟨some 35, .call ⟨.builtin .len, #[.tmp 34], #[24]⟩, some (32, false)⟩,
 ⟨some 36, .binOp .gtr 3 (.tmp 35) (.const (.int .i64 400)) 3, some (32, false)⟩, ⟨some 37, .pick (.tmp 32) (.const (.bool true)) (.tmp 36), none⟩] ⟨6, 36, []⟩ []) (.cond (.tmp 37) (.seq (.reg [⟨some 2,
 .assign (.const (.bool false)), none⟩] ⟨1, 0, []⟩ []) .ret) .skip)) (.seq (.seq (.reg [⟨some 38, .fieldAddr 27 (.tmp 1) 6, none⟩, ⟨some 39, .load 24 (.tmp 38), none⟩, ⟨some 40, .call ⟨.builtin .len,
 #[.tmp 39], #[24]⟩, none⟩, ⟨some 41, .move (.const (.int .i64 0)), none⟩] ⟨38, 38, []⟩ []) (.block 0 (.loop (.seq (.reg [⟨some 42, .binOp .lss 3 (.tmp 41) (.tmp 40) 3, none⟩] ⟨1, 0, []⟩ []) (.seq
 (.cond (.tmp 42) .skip (.exit 0)) (.seq (.block 1 (.seq (.reg [⟨some 43, .indexAddr 24 (.tmp 39) (.tmp 41), none⟩, ⟨some 44, .load 65 (.tmp 43), none⟩, ⟨some 4, .alloc 65, none⟩, ⟨none, .store 65 (.tmp
 4) (.tmp 44), none⟩] ⟨43, 44, []⟩ []) (.seq (.reg [⟨some 45, .fieldAddr 65 (.tmp 4) 1, none⟩, ⟨some 46, .load 52 (.tmp 45), none⟩, ⟨some 5, .alloc 52, none⟩, ⟨none, .store 52 (.tmp 5) (.tmp 46), none⟩]
 ⟨45, 46, []⟩ []) (.seq (.reg [⟨some 47, .fieldAddr 65 (.tmp 4) 0, none⟩, ⟨some 48, .load 3 (.tmp 47), none⟩, ⟨some 49, .fieldAddr 65 (.tmp 4) 2, none⟩, ⟨some 50, .load 3 (.tmp 49), none⟩, ⟨some 51,
 .fieldAddr 52 (.tmp 5) 0, none⟩, ⟨some 52, .load 3 (.tmp 51), none⟩, ⟨some 53, .fieldAddr 52 (.tmp 5) 1, none⟩, ⟨some 54, .load 3 (.tmp 53), none⟩, ⟨some 55, .fieldAddr 52 (.tmp 5) 2, none⟩, ⟨some 56,
 .load 3 (.tmp 55), none⟩, ⟨some 57, .call ⟨.builtin .min, #[.tmp 48, .tmp 50, .tmp 52, .tmp 54, .tmp 56], #[3, 3, 3, 3, 3]⟩, none⟩, ⟨some 58, .binOp .lss 3 (.tmp 57) (.const (.int .i64 0)) 3, none⟩,
 ⟨some 59, .move (.tmp 58), none⟩, ⟨some 60, .fieldAddr 65 (.tmp 4) 0, some (59, false)⟩, ⟨some 61, .load 3 (.tmp 60), some (59, false)⟩, ⟨some 62, .fieldAddr 65 (.tmp 4) 2, some (59, false)⟩, ⟨some 63,
 .load 3 (.tmp 62), some (59, false)⟩, ⟨some 64, .call ⟨.builtin .max, #[.tmp 61, .tmp 63], #[3, 3]⟩, some (59, false)⟩, ⟨some 65, .fieldAddr 27 (.tmp 1) 3, some (59, false)⟩, ⟨some 66, .load 3 (.tmp
 65), some (59, false)⟩, ⟨some 67, .binOp .geq 3 (.tmp 64) (.tmp 66) 3, some (59, false)⟩, ⟨some 68, .pick (.tmp 59) (.const (.bool true)) (.tmp 67), none⟩, ⟨some 69, .move (.tmp 68), none⟩, ⟨some 70,
 .fieldAddr 52 (.tmp 5) 0, some (69, false)⟩, ⟨some 71, .load 3 (.tmp 70), some (69, false)⟩, ⟨some 72, .fieldAddr 52 (.tmp 5) 1, some (69, false)⟩, ⟨some 73, .load 3 (.tmp 72), some (69, false)⟩, ⟨some
 74, .call ⟨.builtin .max, #[.tmp 71, .tmp 73], #[3, 3]⟩, some (69, false)⟩, ⟨some 75, .fieldAddr 27 (.tmp 1) 1, some (69, false)⟩, ⟨some 76, .load 22 (.tmp 75), some (69, false)⟩, ⟨some 77, .call
 ⟨.builtin .len, #[.tmp 76], #[22]⟩, some (69, false)⟩, ⟨some 78, .binOp .geq 3 (.tmp 74) (.tmp 77) 3, some (69, false)⟩, ⟨some 79, .pick (.tmp 69) (.const (.bool true)) (.tmp 78), none⟩, ⟨some 80,
 .move (.tmp 79), none⟩, ⟨some 81, .fieldAddr 52 (.tmp 5) 0, some (80, false)⟩, ⟨some 82, .load 3 (.tmp 81), some (80, false)⟩, ⟨some 83, .fieldAddr 52 (.tmp 5) 1, some (80, false)⟩, ⟨some 84, .load 3
 (.tmp 83), some (80, false)⟩, ⟨some 85, .binOp .eql 3 (.tmp 82) (.tmp 84) 3, some (80, false)⟩, ⟨some 86, .pick (.tmp 80) (.const (.bool true)) (.tmp 85), none⟩, ⟨some 87, .move (.tmp 86), none⟩, ⟨some
 88, .fieldAddr 52 (.tmp 5) 2, some (87, false)⟩, ⟨some 89, .load 3 (.tmp 88), some (87, false)⟩, ⟨some 90, .fieldAddr 27 (.tmp 1) 2, some (87, false)⟩, ⟨some 91, .load 23 (.tmp 90), some (87, false)⟩,
 ⟨some 92, .call ⟨.builtin .len, #[.tmp 91], #[23]⟩, some (87, false)⟩, ⟨some 93, .binOp .geq 3 (.tmp 89) (.tmp 92) 3, some (87, false)⟩, ⟨some 94, .pick (.tmp 87) (.const (.bool true)) (.tmp 93),
 none⟩] ⟨47, 93, []⟩ []) (.cond (.tmp 94) (.seq (.reg [⟨some 2, .assign (.const (.bool false)), none⟩] ⟨1, 0, []⟩ []) .ret) .skip))))) (.reg [⟨some 95, .binOp .add 3 (.tmp 41) (.const (.int .i64 1)) 3,
 none⟩, ⟨some 41, .move (.tmp 95), none⟩] ⟨95, 95, []⟩ []))))))) (.seq (.reg [⟨some 2, .assign (.const (.bool true)), none⟩] ⟨1, 0, []⟩ []) .ret)))
theorem z68 : FnF Tryz.prog Tryz.f68 96 c68 [.tmp 2] := ⟨by kernel_rfl, by kernel_rfl, by kernel_rfl, by kernel_rfl, by decide⟩
def c69 : AC :=
 .seq (.reg [⟨some 2, .assign (.const (.bool false)), none⟩] ⟨1, 0, []⟩ []) (.seq (.seq (.reg [⟨some 5, .move (.tmp 0), none⟩, ⟨some 6, .call ⟨.builtin .len, #[.tmp 5], #[23]⟩, none⟩, ⟨some 7, .binOp
 .eql 3 (.tmp 6) (.const (.int .i64 0)) 3, none⟩] ⟨5, 6, []⟩ []) (.cond (.tmp 7) (.seq (.reg [⟨some 2, .assign (.const (.bool true)), none⟩] ⟨1, 0, []⟩ []) .ret) .skip)) (.seq (.reg [⟨some 9, .move
 (.tmp 0), none⟩, ⟨some 10, .call ⟨.value (.func 107), #[.tmp 9, .const (.int .i64 0)], #[23, 3]⟩, none⟩, ⟨some 8, .move (.tmp 10), none⟩, ⟨some 11, .extract (.tmp 8) 0, none⟩, ⟨some 12, .extract (.tmp
 8) 1, none⟩, ⟨some 3, .assign (.tmp 11), none⟩, ⟨some 4, .assign (.tmp 12), none⟩] ⟨8, 12, []⟩ []) (.seq (.reg [⟨some 13, .move (.tmp 4), none⟩, ⟨some 14, .binOp .eql 42 (.tmp 13) (.const (.int .i64
 0)) 42, none⟩, ⟨some 2, .assign (.tmp 14), none⟩] ⟨13, 14, []⟩ []) .ret)))
theorem z69 : FnF Tryz.prog Tryz.f69 15 c69 [.tmp 2] := ⟨by kernel_rfl, by kernel_rfl, by kernel_rfl, by kernel_rfl, by decide⟩
def c70 : AC :=
 .seq (.reg [⟨some 1, .box 27 (.tmp 0), none⟩, ⟨some 2, .assign (.const (.bool false)), none⟩] ⟨1, 0, []⟩ []) (.seq (.seq (.reg [⟨some 7, .fieldAddr 27 (.tmp 1) 6, none⟩, ⟨some 8, .load 24 (.tmp 7),
 none⟩, ⟨some 9, .call ⟨.builtin .len, #[.tmp 8], #[24]⟩, none⟩, ⟨some 10, .move (.const (.int .i64 0)), none⟩] ⟨7, 7, []⟩ []) (.block 0 (.loop (.seq (.reg [⟨some 11, .binOp .lss 3 (.tmp 10) (.tmp 9) 3,
 none⟩] ⟨1, 0, []⟩ []) (.seq (.cond (.tmp 11) .skip (.exit 0)) (.seq (.block 1 (.seq (.reg [⟨some 12, .move (.tmp 10), none⟩, ⟨some 13, .indexAddr 24 (.tmp 8) (.tmp 10), none⟩, ⟨some 14, .load 65 (.tmp
 13), none⟩, ⟨some 4, .alloc 65, none⟩, ⟨some 3, .assign (.tmp 12), none⟩, ⟨none, .store 65 (.tmp 4) (.tmp 14), none⟩] ⟨12, 14, []⟩ []) (.seq (.seq (.reg [⟨some 15, .fieldAddr 65 (.tmp 4) 0, none⟩,
 ⟨some 16, .load 3 (.tmp 15), none⟩, ⟨some 17, .fieldAddr 27 (.tmp 1) 5, none⟩, ⟨some 18, .load 3 (.tmp 17), none⟩, ⟨some 19, .binOp .eql 3 (.tmp 16) (.tmp 18) 3, none⟩, ⟨some 20, .move (.tmp 19),
 none⟩, ⟨some 21, .fieldAddr 65 (.tmp 4) 3, some (20, false)⟩, ⟨some 22, .load 4 (.tmp 21), some (20, false)⟩, ⟨some 23, .move (.tmp 22), some (20, false)⟩, ⟨some 24, .fieldAddr 65 (.tmp 4) 0, some (23,
 true)⟩, ⟨some 25, .load 3 (.tmp 24), some (23, true)⟩, ⟨some 26, .fieldAddr 27 (.tmp 1) 4, some (23, true)⟩, ⟨some 27, .load 3 (.tmp 26), some (23, true)⟩, ⟨some 28, .binOp .eql 3 (.tmp 25) (.tmp 27)
 3, some (23, true)⟩, ⟨some 29, .pick (.tmp 23) (.tmp 28) (.const (.bool false)), some (20, false)⟩, ⟨some 30, .pick (.tmp 20) (.const (.bool true)) (.tmp 29), none⟩] ⟨15, 29, []⟩ []) (.cond (.tmp 30)
 (.seq (.reg [⟨some 2, .assign (.const (.bool false)), none⟩] ⟨1, 0, []⟩ []) .ret) .skip)) (.seq (.reg [⟨some 31, .fieldAddr 27 (.tmp 1) 6, none⟩, ⟨some 32, .load 24 (.tmp 31), none⟩, ⟨some 33, .call
 ⟨.builtin .len, #[.tmp 32], #[24]⟩, none⟩, ⟨some 34, .move (.const (.int .i64 0)), none⟩] ⟨31, 31, []⟩ []) (.block 2 (.loop (.seq (.reg [⟨some 35, .binOp .lss 3 (.tmp 34) (.tmp 33) 3, none⟩] ⟨1, 0, []⟩
 []) (.seq (.cond (.tmp 35) .skip (.exit 2)) (.seq (.block 3 (.seq (.reg [⟨some 36, .move (.tmp 34), none⟩, ⟨some 37, .indexAddr 24 (.tmp 32) (.tmp 34), none⟩, ⟨some 38, .load 65 (.tmp 37), none⟩, ⟨some
 6, .alloc 65, none⟩, ⟨some 5, .assign (.tmp 36), none⟩, ⟨none, .store 65 (.tmp 6) (.tmp 38), none⟩] ⟨36, 38, []⟩ []) (.seq (.seq (.reg [⟨some 39, .move (.tmp 3), none⟩, ⟨some 40, .move (.tmp 5), none⟩,
 ⟨some 41, .binOp .neq 3 (.tmp 39) (.tmp 40) 3, none⟩, ⟨some 42, .move (.tmp 41), none⟩, ⟨some 43, .fieldAddr 65 (.tmp 4) 0, some (42, true)⟩, ⟨some 44, .load 3 (.tmp 43), some (42, true)⟩, ⟨some 45,
 .fieldAddr 65 (.tmp 6) 0, some (42, true)⟩, ⟨some 46, .load 3 (.tmp 45), some (42, true)⟩, ⟨some 47, .binOp .eql 3 (.tmp 44) (.tmp 46) 3, some (42, true)⟩, ⟨some 48, .pick (.tmp 42) (.tmp 47) (.const
 (.bool false)), none⟩, ⟨some 49, .move (.tmp 48), none⟩, ⟨some 50, .fieldAddr 65 (.tmp 4) 1, some (49, true)⟩, ⟨some 51, .load 52 (.tmp 50), some (49, true)⟩, ⟨some 52, .fieldAddr 65 (.tmp 6) 1, some
 (49, true)⟩, ⟨some 53, .load 52 (.tmp 52), some (49, true)⟩, ⟨some 54, .binOp .eql 52 (.tmp 51) (.tmp 53) 52, some (49, true)⟩, ⟨some 55, .move (.tmp 54), some (49, true)⟩, ⟨some 56, .fieldAddr 65
 (.tmp 4) 1, some (55, false)⟩, ⟨some 57, .fieldAddr 52 (.tmp 56) 0, some (55, false)⟩, ⟨some 58, .load 3 (.tmp 57), some (55, false)⟩, ⟨some 59, .fieldAddr 65 (.tmp 6) 1, some (55, false)⟩, ⟨some 60,
 .fieldAddr 52 (.tmp 59) 0, some (55, false)⟩, ⟨some 61, .load 3 (.tmp 60), some (55, false)⟩, ⟨some 62, .binOp .neq 3 (.tmp 58) (.tmp 61) 3, some (55, false)⟩, ⟨some 63, .pick (.tmp 55) (.const (.bool
 true)) (.tmp 62), some (49, true)⟩, ⟨some 64, .move (.tmp 63), some (49, true)⟩, ⟨some 65, .fieldAddr 65 (.tmp 4) 3, some (64, false)⟩, ⟨some 66, .load 4 (.tmp 65), some (64, false)⟩, ⟨some 67, .pick
 (.tmp 64) (.const (.bool true)) (.tmp 66), some (49, true)⟩, ⟨some 68, .pick (.tmp 49) (.tmp 67) (.const (.bool false)), none⟩] ⟨39, 67, []⟩ []) (.cond (.tmp 68) (.seq (.reg [⟨some 2, .assign (.const
 (.bool false)), none⟩] ⟨1, 0, []⟩ []) .ret) .skip)) (.seq (.reg [⟨some 69, .fieldAddr 65 (.tmp 4) 3, none⟩, ⟨some 70, .load 4 (.tmp 69), none⟩, ⟨some 71, .move (.tmp 70), none⟩, ⟨some 72, .fieldAddr 65
 (.tmp 6) 2, some (71, true)⟩, ⟨some 73, .load 3 (.tmp 72), some (71, true)⟩, ⟨some 74, .fieldAddr 65 (.tmp 4) 0, some (71, true)⟩, ⟨some 75, .load 3 (.tmp 74), some (71, true)⟩, ⟨some 76, .binOp .eql 3
 (.tmp 73) (.tmp 75) 3, some (71, true)⟩, ⟨some 77, .pick (.tmp 71) (.tmp 76) (.const (.bool false)), none⟩, ⟨some 78, .move (.tmp 77), none⟩, ⟨some 79, .fieldAddr 65 (.tmp 4) 1, some (78, true)⟩, ⟨some
 80, .fieldAddr 52 (.tmp 79) 0, some (78, true)⟩, ⟨some 81, .load 3 (.tmp 80), some (78, true)⟩, ⟨some 82, .fieldAddr 65 (.tmp 6) 1, some (78, true)⟩, ⟨some 83, .fieldAddr 52 (.tmp 82) 0, some (78,
 true)⟩, ⟨some 84, .load 3 (.tmp 83), some (78, true)⟩, ⟨some 85, .binOp .neq 3 (.tmp 81) (.tmp 84) 3, some (78, true)⟩, ⟨some 86, .move (.tmp 85), some (78, true)⟩, ⟨some 87, .fieldAddr 65 (.tmp 4) 1,
 some (86, false)⟩, ⟨some 88, .fieldAddr 52 (.tmp 87) 2, some (86, false)⟩, ⟨some 89, .load 3 (.tmp 88), some (86, false)⟩, ⟨some 90, .fieldAddr 65 (.tmp 6) 1, some (86, false)⟩, ⟨some 91, .fieldAddr 52
 (.tmp 90) 2, some (86, false)⟩, ⟨some 92, .load 3 (.tmp 91), some (86, false)⟩, ⟨some 93, .binOp .neq 3 (.tmp 89) (.tmp 92) 3, some (86, false)⟩, ⟨some 94, .pick (.tmp 86) (.const (.bool true)) (.tmp
 93), some (78, true)⟩, ⟨some 95, .pick (.tmp 78) (.tmp 94) (.const (.bool false)), none⟩] ⟨69, 94, []⟩ []) (.cond (.tmp 95) (.seq (.reg [⟨some 2, .assign (.const (.bool false)), none⟩] ⟨1, 0, []⟩ [])
 .ret) .skip))))) (.reg [⟨some 96, .binOp .add 3 (.tmp 34) (.const (.int .i64 1)) 3, none⟩, ⟨some 34, .move (.tmp 96), none⟩] ⟨96, 96, []⟩ [])))))))))) (.reg [⟨some 97, .binOp .add 3 (.tmp 10) (.const
 (.int .i64 1)) 3, none⟩, ⟨some 10, .move (.tmp 97), none⟩] ⟨97, 97, []⟩ []))))))) (.seq (.reg [⟨some 2, .assign (.const (.bool true)), none⟩] ⟨1, 0, []⟩ []) .ret))
theorem z70 : FnF Tryz.prog Tryz.f70 98 c70 [.tmp 2] := ⟨by kernel_rfl, by kernel_rfl, by kernel_rfl, by kernel_rfl, by decide⟩
def c71 : AC :=
 .seq (.reg [⟨some 1, .box 27 (.tmp 0), none⟩, ⟨some 2, .assign (.const (.bool false)), none⟩] ⟨1, 0, []⟩ []) (.seq (.reg [⟨some 3, .assign (.const (.int .i64 (-1))), none⟩] ⟨1, 0, []⟩ []) (.seq (.seq
 (.reg [⟨some 6, .fieldAddr 27 (.tmp 1) 7, none⟩, ⟨some 7, .load 25 (.tmp 6), none⟩, ⟨some 8, .call ⟨.builtin .len, #[.tmp 7], #[25]⟩, none⟩, ⟨some 9, .move (.const (.int .i64 0)), none⟩] ⟨6, 6, []⟩ [])
 (.block 0 (.loop (.seq (.reg [⟨some 10, .binOp .lss 3 (.tmp 9) (.tmp 8) 3, none⟩] ⟨1, 0, []⟩ []) (.seq (.cond (.tmp 10) .skip (.exit 0)) (.seq (.block 1 (.seq (.reg [⟨some 11, .indexAddr 25 (.tmp 7)
 (.tmp 9), none⟩, ⟨some 12, .load 118 (.tmp 11), none⟩, ⟨some 5, .alloc 118, none⟩, ⟨none, .store 118 (.tmp 5) (.tmp 12), none⟩] ⟨11, 12, []⟩ []) (.seq (.seq (.drw [⟨⟨some 13, .fieldAddr 118 (.tmp 5) 0,
 none⟩, []⟩, ⟨⟨some 14, .load 3 (.tmp 13), none⟩, [13]⟩, ⟨⟨some 15, .move (.tmp 3), none⟩, []⟩, ⟨⟨some 16, .binOp .leq 3 (.tmp 14) (.tmp 15) 3, none⟩, [14, 13, 15]⟩, ⟨⟨some 17, .move (.tmp 16), none⟩,
 [16, 14, 13, 15]⟩, ⟨⟨some 18, .fieldAddr 118 (.tmp 5) 1, some (17, false)⟩, [17, 16, 14, 13, 15]⟩, ⟨⟨some 19, .load 3 (.tmp 18), some (17, false)⟩, [18, 17, 16, 14, 13, 15]⟩, ⟨⟨some 20, .binOp .lss 3
 (.tmp 19) (.const (.int .i64 1)) 3, some (17, false)⟩, [19, 18, 17, 16, 14, 13, 15]⟩, ⟨⟨some 21, .pick (.tmp 17) (.const (.bool true)) (.tmp 20), none⟩, [20, 19, 18, 17, 16, 14, 13, 15]⟩, ⟨⟨some 22,
 .move (.tmp 21), none⟩, [21, 20, 19, 18, 17, 16, 14, 13, 15]⟩, ⟨⟨some 23, .fieldAddr 118 (.tmp 5) 1, some (22, false)⟩, [22, 21, 20, 19, 18, 17, 16, 14, 13, 15]⟩, ⟨⟨some 24, .load 3 (.tmp 23), some
 (22, false)⟩, [23, 22, 21, 20, 19, 18, 17, 16, 14, 13, 15]⟩, ⟨⟨some 25, .binOp .gtr 3 (.tmp 24) (.const (.int .i64 1000)) 3, some (22, false)⟩, [24, 23, 22, 21, 20, 19, 18, 17, 16, 14, 13, 15]⟩, ⟨⟨some
 26, .pick (.tmp 22) (.const (.bool true)) (.tmp 25), none⟩, [25, 24, 23, 22, 21, 20, 19, 18, 17, 16, 14, 13, 15]⟩, ⟨⟨some 27, .move (.tmp 26), none⟩, [26, 25, 24, 23, 22, 21, 20, 19, 18, 17, 16, 14,
 13, 15]⟩, ⟨⟨some 28, .fieldAddr 118 (.tmp 5) 2, some (27, false)⟩, [27, 26, 25, 24, 23, 22, 21, 20, 19, 18, 17, 16, 14, 13, 15]⟩, ⟨⟨some 29, .load 3 (.tmp 28), some (27, false)⟩, [28, 27, 26, 25, 24,
 23, 22, 21, 20, 19, 18, 17, 16, 14, 13, 15]⟩, ⟨⟨some 30, .binOp .lss 3 (.tmp 29) (.const (.int .i64 0)) 3, some (27, false)⟩, [29, 28, 27, 26, 25, 24, 23, 22, 21, 20, 19, 18, 17, 16, 14, 13, 15]⟩,
 ⟨⟨some 31, .pick (.tmp 27) (.const (.bool true)) (.tmp 30), none⟩, [30, 29, 28, 27, 26, 25, 24, 23, 22, 21, 20, 19, 18, 17, 16, 14, 13, 15]⟩, ⟨⟨some 32, .move (.tmp 31), none⟩, [31, 30, 29, 28, 27, 26,
 25, 24, 23, 22, 21, 20, 19, 18, 17, 16, 14, 13, 15]⟩, ⟨⟨some 33, .fieldAddr 118 (.tmp 5) 2, some (32, false)⟩, [32, 31, 30, 29, 28, 27, 26, 25, 24, 23, 22, 21, 20, 19, 18, 17, 16, 14, 13, 15]⟩, ⟨⟨some
 34, .load 3 (.tmp 33), some (32, false)⟩, [33, 32, 31, 30, 29, 28, 27, 26, 25, 24, 23, 22, 21, 20, 19, 18, 17, 16, 14, 13, 15]⟩, ⟨⟨some 35, .fieldAddr 27 (.tmp 1) 6, some (32, false)⟩, [32, 31, 30, 29,
 28, 27, 26, 25, 24, 23, 22, 21, 20, 19, 18, 17, 16, 14, 13, 15]⟩, ⟨⟨some 36, .load 24 (.tmp 35), some (32, false)⟩, [35, 32, 31, 30, 29, 28, 27, 26, 25, 24, 23, 22, 21, 20, 19, 18, 17, 16, 14, 13,
 15]⟩, ⟨⟨some 37, .call ⟨.builtin .len, #[.tmp 36], #[24]⟩, some (32, false)⟩, [36, 35, 32, 31, 30, 29, 28, 27, 26, 25, 24, 23, 22, 21, 20, 19, 18, 17, 16, 14, 13, 15]⟩, ⟨⟨some 38, .binOp .geq 3 (.tmp
 34) (.tmp 37) 3, some (32, false)⟩, [34, 33, 37, 36, 35, 32, 31, 30, 29, 28, 27, 26, 25, 24, 23, 22, 21, 20, 19, 18, 17, 16, 14, 13, 15]⟩, ⟨⟨some 39, .pick (.tmp 32) (.const (.bool true)) (.tmp 38),
 none⟩, [38, 34, 33, 37, 36, 35, 32, 31, 30, 29, 28, 27, 26, 25, 24, 23, 22, 21, 20, 19, 18, 17, 16, 14, 13, 15]⟩, ⟨⟨some 40, .move (.tmp 39), none⟩, [39, 38, 34, 33, 37, 36, 35, 32, 31, 30, 29, 28, 27,
 26, 25, 24, 23, 22, 21, 20, 19, 18, 17, 16, 14, 13, 15]⟩, ⟨⟨some 41, .fieldAddr 27 (.tmp 1) 6, some (40, false)⟩, [40, 39, 38, 34, 33, 37, 36, 35, 32, 31, 30, 29, 28, 27, 26, 25, 24, 23, 22, 21, 20,
 19, 18, 17, 16, 14, 13, 15]⟩, ⟨⟨some 42, .load 24 (.tmp 41), some (40, false)⟩, [41, 40, 39, 38, 34, 33, 37, 36, 35, 32, 31, 30, 29, 28, 27, 26, 25, 24, 23, 22, 21, 20, 19, 18, 17, 16, 14, 13, 15]⟩,
 ⟨⟨some 43, .fieldAddr 118 (.tmp 5) 2, some (40, false)⟩, [40, 39, 38, 34, 33, 37, 36, 35, 32, 31, 30, 29, 28, 27, 26, 25, 24, 23, 22, 21, 20, 19, 18, 17, 16, 14, 13, 15]⟩, ⟨⟨some 44, .load 3 (.tmp 43),
 some (40, false)⟩, [43, 40, 39, 38, 34, 33, 37, 36, 35, 32, 31, 30, 29, 28, 27, 26, 25, 24, 23, 22, 21, 20, 19, 18, 17, 16, 14, 13, 15]⟩, ⟨⟨some 45, .indexAddr 24 (.tmp 42) (.tmp 44), some (40,
 false)⟩, [42, 41, 44, 43, 40, 39, 38, 34, 33, 37, 36, 35, 32, 31, 30, 29, 28, 27, 26, 25, 24, 23, 22, 21, 20, 19, 18, 17, 16, 14, 13, 15]⟩, ⟨⟨some 46, .fieldAddr 65 (.tmp 45) 0, some (40, false)⟩, [45,
 42, 41, 44, 43, 40, 39, 38, 34, 33, 37, 36, 35, 32, 31, 30, 29, 28, 27, 26, 25, 24, 23, 22, 21, 20, 19, 18, 17, 16, 14, 13, 15]⟩, ⟨⟨some 47, .load 3 (.tmp 46), some (40, false)⟩, [46, 45, 42, 41, 44,
 43, 40, 39, 38, 34, 33, 37, 36, 35, 32, 31, 30, 29, 28, 27, 26, 25, 24, 23, 22, 21, 20, 19, 18, 17, 16, 14, 13, 15]⟩, ⟨⟨some 48, .fieldAddr 118 (.tmp 5) 0, some (40, false)⟩, [40, 39, 38, 34, 33, 37,
 36, 35, 32, 31, 30, 29, 28, 27, 26, 25, 24, 23, 22, 21, 20, 19, 18, 17, 16, 14, 13, 15]⟩, ⟨⟨some 49, .load 3 (.tmp 48), some (40, false)⟩, [48, 40, 39, 38, 34, 33, 37, 36, 35, 32, 31, 30, 29, 28, 27,
 26, 25, 24, 23, 22, 21, 20, 19, 18, 17, 16, 14, 13, 15]⟩, ⟨⟨some 50, .binOp .neq 3 (.tmp 47) (.tmp 49) 3, some (40, false)⟩, [47, 46, 45, 42, 41, 44, 43, 49, 48, 40, 39, 38, 34, 33, 37, 36, 35, 32, 31,
 30, 29, 28, 27, 26, 25, 24, 23, 22, 21, 20, 19, 18, 17, 16, 14, 13, 15]⟩, ⟨⟨some 51, .pick (.tmp 40) (.const (.bool true)) (.tmp 50), none⟩, [50, 47, 46, 45, 42, 41, 44, 43, 49, 48, 40, 39, 38, 34, 33,
 37, 36, 35, 32, 31, 30, 29, 28, 27, 26, 25, 24, 23, 22, 21, 20, 19, 18, 17, 16, 14, 13, 15]⟩, ⟨⟨some 52, .move (.tmp 51), none⟩, [51, 50, 47, 46, 45, 42, 41, 44, 43, 49, 48, 40, 39, 38, 34, 33, 37, 36,
 35, 32, 31, 30, 29, 28, 27, 26, 25, 24, 23, 22, 21, 20, 19, 18, 17, 16, 14, 13, 15]⟩, ⟨⟨some 53, .fieldAddr 27 (.tmp 1) 6, some (52, false)⟩, [52, 51, 50, 47, 46, 45, 42, 41, 44, 43, 49, 48, 40, 39,
 38, 34, 33, 37, 36, 35, 32, 31, 30, 29, 28, 27, 26, 25, 24, 23, 22, 21, 20, 19, 18, 17, 16, 14, 13, 15]⟩, ⟨⟨some 54, .load 24 (.tmp 53), some (52, false)⟩, [53, 52, 51, 50, 47, 46, 45, 42, 41, 44, 43,
 49, 48, 40, 39, 38, 34, 33, 37, 36, 35, 32, 31, 30, 29, 28, 27, 26, 25, 24, 23, 22, 21, 20, 19, 18, 17, 16, 14, 13, 15]⟩, ⟨⟨some 55, .fieldAddr 118 (.tmp 5) 2, some (52, false)⟩, [52, 51, 50, 47, 46,
 45, 42, 41, 44, 43, 49, 48, 40, 39, 38, 34, 33, 37, 36, 35, 32, 31, 30, 29, 28, 27, 26, 25, 24, 23, 22, 21, 20, 19, 18, 17, 16, 14, 13, 15]⟩, ⟨⟨some 56, .load 3 (.tmp 55), some (52, false)⟩, [55, 52,
 51, 50, 47, 46, 45, 42, 41, 44, 43, 49, 48, 40, 39, 38, 34, 33, 37, 36, 35, 32, 31, 30, 29, 28, 27, 26, 25, 24, 23, 22, 21, 20, 19, 18, 17, 16, 14, 13, 15]⟩, ⟨⟨some 57, .indexAddr 24 (.tmp 54) (.tmp
 56), some (52, false)⟩, [54, 53, 56, 55, 52, 51, 50, 47, 46, 45, 42, 41, 44, 43, 49, 48, 40, 39, 38, 34, 33, 37, 36, 35, 32, 31, 30, 29, 28, 27, 26, 25, 24, 23, 22, 21, 20, 19, 18, 17, 16, 14, 13,
 15]⟩, ⟨⟨some 58, .fieldAddr 65 (.tmp 57) 3, some (52, false)⟩, [57, 54, 53, 56, 55, 52, 51, 50, 47, 46, 45, 42, 41, 44, 43, 49, 48, 40, 39, 38, 34, 33, 37, 36, 35, 32, 31, 30, 29, 28, 27, 26, 25, 24,
 23, 22, 21, 20, 19, 18, 17, 16, 14, 13, 15]⟩, ⟨⟨some 59, .load 4 (.tmp 58), some (52, false)⟩, [58, 57, 54, 53, 56, 55, 52, 51, 50, 47, 46, 45, 42, 41, 44, 43, 49, 48, 40, 39, 38, 34, 33, 37, 36, 35,
 32, 31, 30, 29, 28, 27, 26, 25, 24, 23, 22, 21, 20, 19, 18, 17, 16, 14, 13, 15]⟩, ⟨⟨some 60, .pick (.tmp 52) (.const (.bool true)) (.tmp 59), none⟩, [59, 58, 57, 54, 53, 56, 55, 52, 51, 50, 47, 46, 45,
 42, 41, 44, 43, 49, 48, 40, 39, 38, 34, 33, 37, 36, 35, 32, 31, 30, 29, 28, 27, 26, 25, 24, 23, 22, 21, 20, 19, 18, 17, 16, 14, 13, 15]⟩] [] ⟨13, 60, []⟩ ⟨13, 59, []⟩ []) (.cond (.tmp 60) (.seq (.reg
 [⟨some 2, .assign (.const (.bool false)), none⟩] ⟨1, 0, []⟩ []) .ret) .skip)) (.reg [⟨some 61, .fieldAddr 118 (.tmp 5) 0, none⟩, ⟨some 62, .load 3 (.tmp 61), none⟩, ⟨some 3, .assign (.tmp 62), none⟩]
 ⟨61, 62, []⟩ [])))) (.reg [⟨some 63, .binOp .add 3 (.tmp 9) (.const (.int .i64 1)) 3, none⟩, ⟨some 9, .move (.tmp 63), none⟩] ⟨63, 63, []⟩ []))))))) (.seq (.reg [⟨some 2, .assign (.const (.bool true)),
 none⟩] ⟨1, 0, []⟩ []) .ret)))
theorem z71 : FnF Tryz.prog Tryz.f71 64 c71 [.tmp 2] := ⟨by kernel_rfl, by kernel_rfl, by kernel_rfl, by kernel_rfl, by decide⟩
def c72 : AC :=
 .seq (.reg [⟨some 4, .assign (.const (.bool false)), none⟩] ⟨1, 0, []⟩ []) (.seq (.reg [⟨some 5, .move (.tmp 0), none⟩, ⟨some 6, .move (.tmp 1), none⟩, ⟨some 7, .call ⟨.value (.func 108), #[.tmp 5,
 .tmp 6], #[37, 3]⟩, none⟩, ⟨some 8, .binOp .geq 3 (.tmp 7) (.const (.int .i64 0)) 3, none⟩, ⟨some 4, .assign (.tmp 8), none⟩] ⟨5, 8, []⟩ []) .ret)
theorem z72 : FnF Tryz.prog Tryz.f72 9 c72 [.tmp 4] := ⟨by kernel_rfl, by kernel_rfl, by kernel_rfl, by kernel_rfl, by decide⟩
def c73 : AC :=
 .seq (.reg [⟨some 3, .box 27 (.tmp 0), none⟩, ⟨some 6, .assign (.const (.slice none 0 0)), none⟩] ⟨1, 0, []⟩ []) (.seq (.reg [⟨some 13, .buildSlice 37 1 #[(0, .const (.int .i64 (-1)))], none⟩, ⟨some
 14, .fieldAddr 27 (.tmp 3) 3, none⟩, ⟨some 15, .load 3 (.tmp 14), none⟩, ⟨some 16, .call ⟨.value (.func 109), #[.tmp 13, .tmp 15], #[37, 3]⟩, none⟩, ⟨some 7, .assign (.tmp 16), none⟩] ⟨13, 16, []⟩ [])
 (.seq (.reg [⟨some 17, .move (.tmp 7), none⟩, ⟨some 18, .move (.tmp 1), none⟩, ⟨some 19, .indexAddr 37 (.tmp 17) (.tmp 18), none⟩, ⟨none, .store 3 (.tmp 19) (.const (.int .i64 0)), none⟩] ⟨17, 19, []⟩
 []) (.seq (.seq (.reg [⟨some 20, .move (.tmp 1), none⟩, ⟨some 21, .buildSlice 37 1 #[(0, .tmp 20)], none⟩, ⟨some 8, .assign (.tmp 21), none⟩] ⟨20, 21, []⟩ []) (.block 0 (.loop (.seq (.seq (.reg [⟨some
 22, .move (.tmp 8), none⟩, ⟨some 23, .call ⟨.builtin .len, #[.tmp 22], #[37]⟩, none⟩, ⟨some 24, .binOp .gtr 3 (.tmp 23) (.const (.int .i64 0)) 3, none⟩] ⟨22, 23, []⟩ []) (.cond (.tmp 24) .skip (.exit
 0))) (.seq (.block 1 (.seq (.reg [⟨some 27, .fieldAddr 27 (.tmp 3) 6, none⟩, ⟨some 28, .load 24 (.tmp 27), none⟩, ⟨some 29, .call ⟨.builtin .len, #[.tmp 28], #[24]⟩, none⟩, ⟨some 30, .move (.const
 (.int .i64 0)), none⟩] ⟨27, 27, []⟩ []) (.block 2 (.loop (.seq (.reg [⟨some 31, .binOp .lss 3 (.tmp 30) (.tmp 29) 3, none⟩] ⟨1, 0, []⟩ []) (.seq (.cond (.tmp 31) .skip (.exit 2)) (.seq (.block 3 (.seq
 (.reg [⟨some 32, .indexAddr 24 (.tmp 28) (.tmp 30), none⟩, ⟨some 33, .load 65 (.tmp 32), none⟩, ⟨some 10, .alloc 65, none⟩, ⟨none, .store 65 (.tmp 10) (.tmp 33), none⟩] ⟨32, 33, []⟩ []) (.seq (.drw
 [⟨⟨some 34, .fieldAddr 65 (.tmp 10) 0, none⟩, []⟩, ⟨⟨some 35, .load 3 (.tmp 34), none⟩, [34]⟩, ⟨⟨some 36, .fieldAddr 65 (.tmp 10) 2, none⟩, []⟩, ⟨⟨some 37, .load 3 (.tmp 36), none⟩, [36]⟩] [⟨⟨some 11,
 .assign (.tmp 35), none⟩, [35, 34], [false, false, true, true]⟩, ⟨⟨some 12, .assign (.tmp 37), none⟩, [37, 36], []⟩] ⟨34, 37, []⟩ ⟨34, 37, []⟩ []) (.seq (.seq (.reg [⟨some 38, .move (.tmp 2), none⟩]
 ⟨1, 0, []⟩ []) (.cond (.tmp 38) (.reg [⟨some 39, .move (.tmp 12), none⟩, ⟨some 40, .move (.tmp 11), none⟩, ⟨some 11, .assign (.tmp 39), none⟩, ⟨some 12, .assign (.tmp 40), none⟩] ⟨39, 40, []⟩ [])
 .skip)) (.seq (.reg [⟨some 41, .move (.tmp 11), none⟩, ⟨some 42, .move (.tmp 8), none⟩, ⟨some 43, .indexAddr 37 (.tmp 42) (.const (.int .i64 0)), none⟩, ⟨some 44, .load 3 (.tmp 43), none⟩, ⟨some 45,
 .binOp .eql 3 (.tmp 41) (.tmp 44) 3, none⟩, ⟨some 46, .move (.tmp 45), none⟩, ⟨some 47, .move (.tmp 7), some (46, true)⟩, ⟨some 48, .move (.tmp 12), some (46, true)⟩, ⟨some 49, .indexAddr 37 (.tmp 47)
 (.tmp 48), some (46, true)⟩, ⟨some 50, .load 3 (.tmp 49), some (46, true)⟩, ⟨some 51, .binOp .lss 3 (.tmp 50) (.const (.int .i64 0)) 3, some (46, true)⟩, ⟨some 52, .pick (.tmp 46) (.tmp 51) (.const
 (.bool false)), none⟩] ⟨41, 51, []⟩ []) (.cond (.tmp 52) (.seq (.reg [⟨some 53, .move (.tmp 7), none⟩, ⟨some 54, .move (.tmp 12), none⟩, ⟨some 55, .move (.tmp 7), none⟩, ⟨some 56, .move (.tmp 11),
 none⟩, ⟨some 57, .indexAddr 37 (.tmp 55) (.tmp 56), none⟩, ⟨some 58, .load 3 (.tmp 57), none⟩, ⟨some 59, .binOp .add 3 (.tmp 58) (.const (.int .i64 1)) 3, none⟩, ⟨some 60, .indexAddr 37 (.tmp 53) (.tmp
 54), none⟩, ⟨none, .store 3 (.tmp 60) (.tmp 59), none⟩] ⟨53, 60, []⟩ []) (.reg [⟨some 61, .move (.tmp 8), none⟩, ⟨some 62, .move (.tmp 12), none⟩, ⟨some 63, .buildSlice 37 1 #[(0, .tmp 62)], none⟩,
 ⟨some 64, .call ⟨.builtin .append, #[.tmp 61, .tmp 63], #[37, 37]⟩, none⟩, ⟨some 8, .assign (.tmp 64), none⟩] ⟨61, 64, []⟩ [])) .skip)))))) (.reg [⟨some 65, .binOp .add 3 (.tmp 30) (.const (.int .i64
 1)) 3, none⟩, ⟨some 30, .move (.tmp 65), none⟩] ⟨65, 65, []⟩ [])))))))) (.reg [⟨some 25, .move (.tmp 8), none⟩, ⟨some 26, .slice 37 (.tmp 25) (some (.const (.int .i64 1))) none none, none⟩, ⟨some 8,
 .assign (.tmp 26), none⟩] ⟨25, 26, []⟩ [])))))) (.seq (.reg [⟨some 66, .move (.tmp 7), none⟩, ⟨some 6, .assign (.tmp 66), none⟩] ⟨66, 66, []⟩ []) .ret))))
theorem z73 : FnF Tryz.prog Tryz.f73 67 c73 [.tmp 6] := ⟨by kernel_rfl, by kernel_rfl, by kernel_rfl, by kernel_rfl, by decide⟩
def c74 : AC :=
 .seq (.reg [⟨some 2, .assign (.const (.slice none 0 0)), none⟩] ⟨1, 0, []⟩ []) (.seq (.seq (.reg [⟨some 3, .move (.tmp 0), none⟩, ⟨some 4, .binOp .eql 28 (.tmp 3) (.const (.slice none 0 0)) 28, none⟩]
 ⟨3, 3, []⟩ []) (.cond (.tmp 4) (.seq (.reg [⟨some 2, .assign (.const (.slice none 0 0)), none⟩] ⟨1, 0, []⟩ []) .ret) .skip)) (.seq (.reg [⟨some 5, .buildSlice 28 0 #[], none⟩, ⟨some 6, .move (.tmp 0),
 none⟩, ⟨some 7, .call ⟨.builtin .append, #[.tmp 5, .tmp 6], #[28, 28]⟩, none⟩, ⟨some 2, .assign (.tmp 7), none⟩] ⟨5, 7, []⟩ []) .ret))
theorem z74 : FnF Tryz.prog Tryz.f74 8 c74 [.tmp 2] := ⟨by kernel_rfl, by kernel_rfl, by kernel_rfl, by kernel_rfl, by decide⟩
def c75 : AC :=
 .seq (.reg [⟨some 2, .box 52 (.tmp 0), none⟩, ⟨some 3, .box 52 (.tmp 1), none⟩, ⟨some 4, .assign (.const (.int .i64 0)), none⟩] ⟨1, 0, []⟩ []) (.seq (.drw [⟨⟨some 7, .fieldAddr 52 (.tmp 2) 0, none⟩,
 []⟩, ⟨⟨some 8, .load 3 (.tmp 7), none⟩, [7]⟩, ⟨⟨some 9, .fieldAddr 52 (.tmp 2) 1, none⟩, []⟩, ⟨⟨some 10, .load 3 (.tmp 9), none⟩, [9]⟩, ⟨⟨some 11, .fieldAddr 52 (.tmp 2) 2, none⟩, []⟩, ⟨⟨some 12, .load
 3 (.tmp 11), none⟩, [11]⟩, ⟨⟨some 13, .build 152 #[(0, .tmp 8), (1, .tmp 10), (2, .tmp 12)], none⟩, [8, 7, 10, 9, 12, 11]⟩, ⟨⟨some 14, .fieldAddr 52 (.tmp 3) 0, none⟩, []⟩, ⟨⟨some 15, .load 3 (.tmp
 14), none⟩, [14]⟩, ⟨⟨some 16, .fieldAddr 52 (.tmp 3) 1, none⟩, []⟩, ⟨⟨some 17, .load 3 (.tmp 16), none⟩, [16]⟩, ⟨⟨some 18, .fieldAddr 52 (.tmp 3) 2, none⟩, []⟩, ⟨⟨some 19, .load 3 (.tmp 18), none⟩,
 [18]⟩, ⟨⟨some 20, .build 152 #[(0, .tmp 15), (1, .tmp 17), (2, .tmp 19)], none⟩, [15, 14, 17, 16, 19, 18]⟩, ⟨⟨some 5, .alloc 152, none⟩, []⟩, ⟨⟨some 6, .alloc 152, none⟩, []⟩] [⟨⟨none, .store 152 (.tmp
 5) (.tmp 13), none⟩, [5, 13, 8, 7, 10, 9, 12, 11], [false, false, false, false, false, false, false, true, true, true, true, true, true, true, false, false]⟩, ⟨⟨none, .store 152 (.tmp 6) (.tmp 20),
 none⟩, [6, 20, 15, 14, 17, 16, 19, 18], []⟩] ⟨7, 20, [5, 6]⟩ ⟨7, 20, []⟩ []) (.seq (.drw [⟨⟨some 21, .slice 152 (.tmp 5) none none none, none⟩, []⟩, ⟨⟨some 22, .slice 152 (.tmp 6) none none none,
 none⟩, []⟩, ⟨⟨some 23, .call ⟨.value (.func 110), #[.tmp 21, .tmp 22], #[37, 37]⟩, none⟩, [21, 22]⟩] [⟨⟨some 4, .assign (.tmp 23), none⟩, [23, 21, 22], []⟩] ⟨21, 23, []⟩ ⟨21, 23, []⟩ []) .ret))
theorem z75 : FnF Tryz.prog Tryz.f75 24 c75 [.tmp 4] := ⟨by kernel_rfl, by kernel_rfl, by kernel_rfl, by kernel_rfl, by decide⟩
def c77 : AC :=
 .seq (.reg [⟨some 2, .assign (.const (.bool false)), none⟩] ⟨1, 0, []⟩ []) (.seq (.seq (.reg [⟨some 7, .move (.tmp 0), none⟩, ⟨some 8, .call ⟨.builtin .len, #[.tmp 7], #[81]⟩, none⟩, ⟨some 9, .move
 (.const (.int .i64 0)), none⟩] ⟨1, 0, []⟩ []) (.block 0 (.loop (.seq (.reg [⟨some 10, .binOp .lss 3 (.tmp 9) (.tmp 8) 3, none⟩] ⟨1, 0, []⟩ []) (.seq (.cond (.tmp 10) .skip (.exit 0)) (.seq (.block 1
 (.seq (.reg [⟨some 11, .move (.tmp 9), none⟩, ⟨some 12, .indexAddr 81 (.tmp 7) (.tmp 9), none⟩, ⟨some 13, .load 34 (.tmp 12), none⟩, ⟨some 3, .assign (.tmp 11), none⟩, ⟨some 4, .assign (.tmp 13),
 none⟩] ⟨11, 13, []⟩ []) (.seq (.reg [⟨some 14, .move (.tmp 4), none⟩, ⟨some 15, .call ⟨.builtin .len, #[.tmp 14], #[34]⟩, none⟩, ⟨some 16, .move (.const (.int .i64 0)), none⟩] ⟨1, 0, []⟩ []) (.block 2
 (.loop (.seq (.reg [⟨some 17, .binOp .lss 3 (.tmp 16) (.tmp 15) 3, none⟩] ⟨1, 0, []⟩ []) (.seq (.cond (.tmp 17) .skip (.exit 2)) (.seq (.block 3 (.seq (.reg [⟨some 18, .indexAddr 34 (.tmp 14) (.tmp
 16), none⟩, ⟨some 19, .load 88 (.tmp 18), none⟩, ⟨some 6, .alloc 88, none⟩, ⟨none, .store 88 (.tmp 6) (.tmp 19), none⟩] ⟨18, 19, []⟩ []) (.seq (.reg [⟨some 20, .fieldAddr 88 (.tmp 6) 0, none⟩, ⟨some
 21, .load 3 (.tmp 20), none⟩, ⟨some 22, .move (.tmp 3), none⟩, ⟨some 23, .binOp .neq 3 (.tmp 21) (.tmp 22) 3, none⟩, ⟨some 24, .move (.tmp 23), none⟩, ⟨some 25, .fieldAddr 88 (.tmp 6) 2, some (24,
 false)⟩, ⟨some 26, .load 3 (.tmp 25), some (24, false)⟩, ⟨some 27, .move (.tmp 3), some (24, false)⟩, ⟨some 28, .binOp .eql 3 (.tmp 26) (.tmp 27) 3, some (24, false)⟩, ⟨some 29, .pick (.tmp 24) (.const
 (.bool true)) (.tmp 28), none⟩, ⟨some 30, .move (.tmp 29), none⟩, ⟨some 31, .fieldAddr 88 (.tmp 6) 2, some (30, false)⟩, ⟨some 32, .load 3 (.tmp 31), some (30, false)⟩, ⟨some 33, .binOp .lss 3 (.tmp
 32) (.const (.int .i64 0)) 3, some (30, false)⟩, ⟨some 34, .pick (.tmp 30) (.const (.bool true)) (.tmp 33), none⟩, ⟨some 35, .move (.tmp 34), none⟩, ⟨some 36, .fieldAddr 88 (.tmp 6) 2, some (35,
 false)⟩, ⟨some 37, .load 3 (.tmp 36), some (35, false)⟩, ⟨some 38, .move (.tmp 0), some (35, false)⟩, ⟨some 39, .call ⟨.builtin .len, #[.tmp 38], #[81]⟩, some (35, false)⟩, ⟨some 40, .binOp .geq 3
 (.tmp 37) (.tmp 39) 3, some (35, false)⟩, ⟨some 41, .pick (.tmp 35) (.const (.bool true)) (.tmp 40), none⟩] ⟨20, 40, []⟩ []) (.cond (.tmp 41) (.seq (.reg [⟨some 2, .assign (.const (.bool false)),
 none⟩] ⟨1, 0, []⟩ []) .ret) .skip)))) (.reg [⟨some 42, .binOp .add 3 (.tmp 16) (.const (.int .i64 1)) 3, none⟩, ⟨some 16, .move (.tmp 42), none⟩] ⟨42, 42, []⟩ []))))))))) (.reg [⟨some 43, .binOp .add 3
 (.tmp 9) (.const (.int .i64 1)) 3, none⟩, ⟨some 9, .move (.tmp 43), none⟩] ⟨43, 43, []⟩ []))))))) (.seq (.reg [⟨some 44, .move (.tmp 0), none⟩, ⟨some 45, .call ⟨.builtin .len, #[.tmp 44], #[81]⟩,
 none⟩, ⟨some 46, .binOp .leq 3 (.tmp 45) (.const (.int .i64 6)) 3, none⟩, ⟨some 2, .assign (.tmp 46), none⟩] ⟨44, 46, []⟩ []) .ret))
theorem z77 : FnF Tryz.prog Tryz.f77 47 c77 [.tmp 2] := ⟨by kernel_rfl, by kernel_rfl, by kernel_rfl, by kernel_rfl, by decide⟩
def c78 : AC :=
 .seq (.reg [⟨some 2, .assign (.const (.slice none 0 0)), none⟩] ⟨1, 0, []⟩ []) (.seq (.seq (.reg [⟨some 3, .move (.tmp 0), none⟩, ⟨some 4, .binOp .eql 81 (.tmp 3) (.const (.slice none 0 0)) 81, none⟩]
 ⟨3, 3, []⟩ []) (.cond (.tmp 4) (.seq (.reg [⟨some 2, .assign (.const (.slice none 0 0)), none⟩] ⟨1, 0, []⟩ []) .ret) .skip)) (.seq (.reg [⟨some 5, .buildSlice 81 0 #[], none⟩, ⟨some 6, .move (.tmp 0),
 none⟩, ⟨some 7, .call ⟨.builtin .append, #[.tmp 5, .tmp 6], #[81, 81]⟩, none⟩, ⟨some 2, .assign (.tmp 7), none⟩] ⟨5, 7, []⟩ []) .ret))
theorem z78 : FnF Tryz.prog Tryz.f78 8 c78 [.tmp 2] := ⟨by kernel_rfl, by kernel_rfl, by kernel_rfl, by kernel_rfl, by decide⟩
def c79 : AC :=
 .seq (.reg [⟨some 4, .assign (.const (.bool false)), none⟩] ⟨1, 0, []⟩ []) (.seq (.seq (.reg [⟨some 6, .move (.tmp 0), none⟩, ⟨some 7, .call ⟨.builtin .len, #[.tmp 6], #[28]⟩, none⟩, ⟨some 8, .move
 (.tmp 1), none⟩, ⟨some 9, .call ⟨.builtin .len, #[.tmp 8], #[28]⟩, none⟩, ⟨some 10, .binOp .neq 3 (.tmp 7) (.tmp 9) 3, none⟩] ⟨6, 9, []⟩ []) (.cond (.tmp 10) (.seq (.reg [⟨some 4, .assign (.const
 (.bool false)), none⟩] ⟨1, 0, []⟩ []) .ret) .skip)) (.seq (.seq (.reg [⟨some 11, .move (.tmp 0), none⟩, ⟨some 12, .call ⟨.builtin .len, #[.tmp 11], #[28]⟩, none⟩, ⟨some 13, .move (.const (.int .i64
 0)), none⟩] ⟨11, 11, []⟩ []) (.block 0 (.loop (.seq (.reg [⟨some 14, .binOp .lss 3 (.tmp 13) (.tmp 12) 3, none⟩] ⟨1, 0, []⟩ []) (.seq (.cond (.tmp 14) .skip (.exit 0)) (.seq (.block 1 (.seq (.reg
 [⟨some 15, .move (.tmp 13), none⟩, ⟨some 5, .assign (.tmp 15), none⟩] ⟨15, 15, []⟩ []) (.seq (.drw [⟨⟨some 16, .move (.tmp 0), none⟩, []⟩, ⟨⟨some 17, .move (.tmp 5), none⟩, []⟩, ⟨⟨some 18, .indexAddr
 28 (.tmp 16) (.tmp 17), none⟩, [16, 17]⟩, ⟨⟨some 19, .load 52 (.tmp 18), none⟩, [18, 16, 17]⟩, ⟨⟨some 20, .move (.tmp 1), none⟩, []⟩, ⟨⟨some 21, .move (.tmp 5), none⟩, []⟩, ⟨⟨some 22, .indexAddr 28
 (.tmp 20) (.tmp 21), none⟩, [20, 21]⟩, ⟨⟨some 23, .load 52 (.tmp 22), none⟩, [22, 20, 21]⟩, ⟨⟨some 24, .binOp .neq 52 (.tmp 19) (.tmp 23) 52, none⟩, [19, 18, 16, 17, 23, 22, 20, 21]⟩] [] ⟨16, 24, []⟩
 ⟨16, 23, []⟩ []) (.cond (.tmp 24) (.seq (.reg [⟨some 4, .assign (.const (.bool false)), none⟩] ⟨1, 0, []⟩ []) .ret) .skip)))) (.reg [⟨some 25, .binOp .add 3 (.tmp 13) (.const (.int .i64 1)) 3, none⟩,
 ⟨some 13, .move (.tmp 25), none⟩] ⟨25, 25, []⟩ []))))))) (.seq (.reg [⟨some 4, .assign (.const (.bool true)), none⟩] ⟨1, 0, []⟩ []) .ret)))
theorem z79 : FnF Tryz.prog Tryz.f79 26 c79 [.tmp 4] := ⟨by kernel_rfl, by kernel_rfl, by kernel_rfl, by kernel_rfl, by decide⟩
def c86 : AC :=
 .seq (.reg [⟨some 4, .assign (.const (.int .i64 0)), none⟩] ⟨1, 0, []⟩ []) (.seq (.seq (.reg [⟨some 6, .move (.tmp 0), none⟩, ⟨some 7, .call ⟨.builtin .len, #[.tmp 6], #[23]⟩, none⟩, ⟨some 8, .move
 (.const (.int .i64 0)), none⟩] ⟨6, 6, []⟩ []) (.block 0 (.loop (.seq (.reg [⟨some 9, .binOp .lss 3 (.tmp 8) (.tmp 7) 3, none⟩] ⟨1, 0, []⟩ []) (.seq (.cond (.tmp 9) .skip (.exit 0)) (.seq (.block 1
 (.seq (.reg [⟨some 10, .move (.tmp 8), none⟩, ⟨some 5, .assign (.tmp 10), none⟩] ⟨10, 10, []⟩ []) (.seq (.reg [⟨some 11, .move (.tmp 1), none⟩, ⟨some 12, .move (.tmp 0), none⟩, ⟨some 13, .move (.tmp
 5), none⟩, ⟨some 14, .indexAddr 23 (.tmp 12) (.tmp 13), none⟩, ⟨some 15, .load 71 (.tmp 14), none⟩, ⟨some 16, .call ⟨.value (.tmp 11), #[.tmp 15], #[71]⟩, none⟩] ⟨11, 15, []⟩ []) (.cond (.tmp 16) (.seq
 (.reg [⟨some 17, .move (.tmp 5), none⟩, ⟨some 4, .assign (.tmp 17), none⟩] ⟨17, 17, []⟩ []) .ret) .skip)))) (.reg [⟨some 18, .binOp .add 3 (.tmp 8) (.const (.int .i64 1)) 3, none⟩, ⟨some 8, .move (.tmp
 18), none⟩] ⟨18, 18, []⟩ []))))))) (.seq (.reg [⟨some 4, .assign (.const (.int .i64 (-1))), none⟩] ⟨1, 0, []⟩ []) .ret))
theorem z86 : FnF Tryz.prog Tryz.f86 19 c86 [.tmp 4] := ⟨by kernel_rfl, by kernel_rfl, by kernel_rfl, by kernel_rfl, by decide⟩
def c96 : AC :=
 .seq (.reg [⟨some 3, .box 27 (.tmp 0), none⟩, ⟨some 6, .assign (.const (.bool false)), none⟩] ⟨1, 0, []⟩ []) (.seq (.drw [⟨⟨some 9, .fieldAddr 27 (.tmp 3) 6, none⟩, []⟩, ⟨⟨some 10, .load 24 (.tmp 9),
 none⟩, [9]⟩, ⟨⟨some 11, .move (.tmp 1), none⟩, []⟩, ⟨⟨some 12, .indexAddr 24 (.tmp 10) (.tmp 11), none⟩, [10, 9, 11]⟩, ⟨⟨some 13, .fieldAddr 65 (.tmp 12) 1, none⟩, [12, 10, 9, 11]⟩, ⟨⟨some 14, .load 52
 (.tmp 13), none⟩, [13, 12, 10, 9, 11]⟩, ⟨⟨some 15, .fieldAddr 27 (.tmp 3) 6, none⟩, []⟩, ⟨⟨some 16, .load 24 (.tmp 15), none⟩, [15]⟩, ⟨⟨some 17, .move (.tmp 2), none⟩, []⟩, ⟨⟨some 18, .indexAddr 24
 (.tmp 16) (.tmp 17), none⟩, [16, 15, 17]⟩, ⟨⟨some 19, .fieldAddr 65 (.tmp 18) 1, none⟩, [18, 16, 15, 17]⟩, ⟨⟨some 20, .load 52 (.tmp 19), none⟩, [19, 18, 16, 15, 17]⟩, ⟨⟨some 7, .alloc 52, none⟩, []⟩,
 ⟨⟨some 8, .alloc 52, none⟩, []⟩] [⟨⟨none, .store 52 (.tmp 7) (.tmp 14), none⟩, [7, 14, 13, 12, 10, 9, 11], [false, false, false, false, false, false, true, true, true, true, true, true, false, false]⟩,
 ⟨⟨none, .store 52 (.tmp 8) (.tmp 20), none⟩, [8, 20, 19, 18, 16, 15, 17], []⟩] ⟨9, 20, [7, 8]⟩ ⟨9, 20, []⟩ []) (.seq (.seq (.reg [⟨some 21, .fieldAddr 52 (.tmp 7) 1, none⟩, ⟨some 22, .load 3 (.tmp 21),
 none⟩, ⟨some 23, .fieldAddr 52 (.tmp 8) 1, none⟩, ⟨some 24, .load 3 (.tmp 23), none⟩, ⟨some 25, .binOp .neq 3 (.tmp 22) (.tmp 24) 3, none⟩] ⟨21, 24, []⟩ []) (.cond (.tmp 25) (.seq (.reg [⟨some 26,
 .fieldAddr 52 (.tmp 7) 1, none⟩, ⟨some 27, .load 3 (.tmp 26), none⟩, ⟨some 28, .fieldAddr 52 (.tmp 8) 1, none⟩, ⟨some 29, .load 3 (.tmp 28), none⟩, ⟨some 30, .binOp .lss 3 (.tmp 27) (.tmp 29) 3, none⟩,
 ⟨some 6, .assign (.tmp 30), none⟩] ⟨26, 30, []⟩ []) .ret) .skip)) (.seq (.seq (.reg [⟨some 31, .fieldAddr 52 (.tmp 7) 2, none⟩, ⟨some 32, .load 3 (.tmp 31), none⟩, ⟨some 33, .fieldAddr 52 (.tmp 8) 2,
 none⟩, ⟨some 34, .load 3 (.tmp 33), none⟩, ⟨some 35, .binOp .neq 3 (.tmp 32) (.tmp 34) 3, none⟩] ⟨31, 34, []⟩ []) (.cond (.tmp 35) (.seq (.reg [⟨some 36, .fieldAddr 52 (.tmp 7) 2, none⟩, ⟨some 37,
 .load 3 (.tmp 36), none⟩, ⟨some 38, .fieldAddr 52 (.tmp 8) 2, none⟩, ⟨some 39, .load 3 (.tmp 38), none⟩, ⟨some 40, .binOp .lss 3 (.tmp 37) (.tmp 39) 3, none⟩, ⟨some 6, .assign (.tmp 40), none⟩] ⟨36,
 40, []⟩ []) .ret) .skip)) (.seq (.reg [⟨some 41, .move (.tmp 1), none⟩, ⟨some 42, .move (.tmp 2), none⟩, ⟨some 43, .binOp .lss 3 (.tmp 41) (.tmp 42) 3, none⟩, ⟨some 6, .assign (.tmp 43), none⟩] ⟨41,
 43, []⟩ []) .ret))))
theorem z96 : FnF Tryz.prog Tryz.f96 44 c96 [.tmp 6] := ⟨by kernel_rfl, by kernel_rfl, by kernel_rfl, by kernel_rfl, by decide⟩
def c98 : AC :=
 .seq (.reg [⟨some 2, .assign (.const (.bool false)), none⟩] ⟨1, 0, []⟩ []) (.seq (.reg [⟨some 3, .move (.tmp 0), none⟩, ⟨some 4, .call ⟨.value (.func 113), #[.tmp 3], #[9]⟩, none⟩, ⟨some 5, .move (.tmp
 4), none⟩, ⟨some 6, .call ⟨.value (.func 115), #[], #[]⟩, some (5, true)⟩, ⟨some 7, .move (.tmp 0), some (5, true)⟩, ⟨some 8, .call ⟨.value (.func 114), #[.tmp 6, .tmp 7], #[22, 9]⟩, some (5, true)⟩,
 ⟨some 9, .unOp .not 4 (.tmp 8), some (5, true)⟩, ⟨some 10, .pick (.tmp 5) (.tmp 9) (.const (.bool false)), none⟩, ⟨some 2, .assign (.tmp 10), none⟩] ⟨3, 10, []⟩ []) .ret)
theorem z98 : FnF Tryz.prog Tryz.f98 11 c98 [.tmp 2] := ⟨by kernel_rfl, by kernel_rfl, by kernel_rfl, by kernel_rfl, by decide⟩
def c99 : AC :=
 .seq (.reg [⟨some 4, .assign (.const (.int .i64 0)), none⟩] ⟨1, 0, []⟩ []) (.seq (.seq (.reg [⟨some 5, .assign (.const (.int .i64 0)), none⟩] ⟨1, 0, []⟩ []) (.block 0 (.loop (.seq (.seq (.reg [⟨some 6,
 .move (.tmp 5), none⟩, ⟨some 7, .move (.tmp 0), none⟩, ⟨some 8, .call ⟨.builtin .len, #[.tmp 7], #[22]⟩, none⟩, ⟨some 9, .binOp .lss 3 (.tmp 6) (.tmp 8) 3, none⟩] ⟨6, 8, []⟩ []) (.cond (.tmp 9) .skip
 (.exit 0))) (.seq (.block 1 (.seq (.reg [⟨some 12, .move (.tmp 0), none⟩, ⟨some 13, .move (.tmp 5), none⟩, ⟨some 14, .indexAddr 22 (.tmp 12) (.tmp 13), none⟩, ⟨some 15, .load 9 (.tmp 14), none⟩, ⟨some
 16, .move (.tmp 1), none⟩, ⟨some 17, .binOp .eql 9 (.tmp 15) (.tmp 16) 9, none⟩] ⟨12, 16, []⟩ []) (.cond (.tmp 17) (.seq (.reg [⟨some 18, .move (.tmp 5), none⟩, ⟨some 4, .assign (.tmp 18), none⟩] ⟨18,
 18, []⟩ []) .ret) .skip))) (.reg [⟨some 10, .move (.tmp 5), none⟩, ⟨some 11, .binOp .add 3 (.tmp 10) (.const (.int .i64 1)) 3, none⟩, ⟨some 5, .assign (.tmp 11), none⟩] ⟨10, 11, []⟩ [])))))) (.seq
 (.reg [⟨some 4, .assign (.const (.int .i64 (-1))), none⟩] ⟨1, 0, []⟩ []) .ret))
theorem z99 : FnF Tryz.prog Tryz.f99 19 c99 [.tmp 4] := ⟨by kernel_rfl, by kernel_rfl, by kernel_rfl, by kernel_rfl, by decide⟩
def c100 : AC :=
 .seq (.reg [⟨some 2, .assign (.const (.bool false)), none⟩] ⟨1, 0, []⟩ []) (.seq (.seq (.reg [⟨some 9, .move (.tmp 0), none⟩, ⟨some 10, .call ⟨.builtin .len, #[.tmp 9], #[23]⟩, none⟩, ⟨some 11, .binOp
 .gtr 3 (.tmp 10) (.const (.int .i64 40)) 3, none⟩, ⟨some 12, .move (.tmp 11), none⟩, ⟨some 13, .move (.tmp 0), some (12, false)⟩, ⟨some 14, .call ⟨.value (.func 41), #[.tmp 13], #[23]⟩, some (12,
 false)⟩, ⟨some 15, .binOp .gtr 3 (.tmp 14) (.const (.int .i64 24)) 3, some (12, false)⟩, ⟨some 16, .pick (.tmp 12) (.const (.bool true)) (.tmp 15), none⟩] ⟨9, 15, []⟩ []) (.cond (.tmp 16) (.seq (.reg
 [⟨some 2, .assign (.const (.bool false)), none⟩] ⟨1, 0, []⟩ []) .ret) .skip)) (.seq (.reg [⟨some 3, .assign (.const (.int .i64 0)), none⟩] ⟨1, 0, []⟩ []) (.seq (.seq (.reg [⟨some 4, .assign (.const
 (.int .i64 0)), none⟩] ⟨1, 0, []⟩ []) (.block 0 (.loop (.seq (.seq (.reg [⟨some 17, .move (.tmp 4), none⟩, ⟨some 18, .move (.tmp 0), none⟩, ⟨some 19, .call ⟨.builtin .len, #[.tmp 18], #[23]⟩, none⟩,
 ⟨some 20, .binOp .lss 3 (.tmp 17) (.tmp 19) 3, none⟩] ⟨17, 19, []⟩ []) (.cond (.tmp 20) .skip (.exit 0))) (.seq (.block 1 (.seq (.reg [⟨some 23, .move (.tmp 0), none⟩, ⟨some 24, .move (.tmp 4), none⟩,
 ⟨some 25, .indexAddr 23 (.tmp 23) (.tmp 24), none⟩, ⟨some 26, .load 71 (.tmp 25), none⟩, ⟨some 5, .alloc 71, none⟩, ⟨none, .store 71 (.tmp 5) (.tmp 26), none⟩] ⟨23, 26, []⟩ []) (.seq (.seq (.reg [⟨some
 6, .assign (.const (.int .i64 0)), none⟩] ⟨1, 0, []⟩ []) (.block 2 (.loop (.seq (.seq (.reg [⟨some 27, .move (.tmp 6), none⟩, ⟨some 28, .move (.tmp 4), none⟩, ⟨some 29, .binOp .lss 3 (.tmp 27) (.tmp
 28) 3, none⟩] ⟨27, 28, []⟩ []) (.cond (.tmp 29) .skip (.exit 2))) (.seq (.block 3 (.seq (.drw [⟨⟨some 32, .move (.tmp 0), none⟩, []⟩, ⟨⟨some 33, .move (.tmp 6), none⟩, []⟩, ⟨⟨some 34, .indexAddr 23
 (.tmp 32) (.tmp 33), none⟩, [32, 33]⟩, ⟨⟨some 35, .fieldAddr 71 (.tmp 34) 0, none⟩, [34, 32, 33]⟩, ⟨⟨some 36, .load 9 (.tmp 35), none⟩, [35, 34, 32, 33]⟩, ⟨⟨some 37, .fieldAddr 71 (.tmp 5) 0, none⟩,
 []⟩, ⟨⟨some 38, .load 9 (.tmp 37), none⟩, [37]⟩, ⟨⟨some 39, .binOp .eql 9 (.tmp 36) (.tmp 38) 9, none⟩, [36, 35, 34, 32, 33, 38, 37]⟩] [] ⟨32, 39, []⟩ ⟨32, 38, []⟩ []) (.cond (.tmp 39) (.seq (.reg
 [⟨some 2, .assign (.const (.bool false)), none⟩] ⟨1, 0, []⟩ []) .ret) .skip))) (.reg [⟨some 30, .move (.tmp 6), none⟩, ⟨some 31, .binOp .add 3 (.tmp 30) (.const (.int .i64 1)) 3, none⟩, ⟨some 6,
 .assign (.tmp 31), none⟩] ⟨30, 31, []⟩ [])))))) (.seq (.seq (.reg [⟨some 7, .assign (.const (.int .i64 0)), none⟩] ⟨1, 0, []⟩ []) (.block 4 (.loop (.seq (.seq (.reg [⟨some 40, .move (.tmp 7), none⟩,
 ⟨some 41, .fieldAddr 71 (.tmp 5) 1, none⟩, ⟨some 42, .load 66 (.tmp 41), none⟩, ⟨some 43, .call ⟨.builtin .len, #[.tmp 42], #[66]⟩, none⟩, ⟨some 44, .binOp .lss 3 (.tmp 40) (.tmp 43) 3, none⟩] ⟨40, 43,
 []⟩ []) (.cond (.tmp 44) .skip (.exit 4))) (.seq (.block 5 (.seq (.seq (.reg [⟨some 47, .fieldAddr 71 (.tmp 5) 1, none⟩, ⟨some 48, .load 66 (.tmp 47), none⟩, ⟨some 49, .move (.tmp 7), none⟩, ⟨some 50,
 .indexAddr 66 (.tmp 48) (.tmp 49), none⟩, ⟨some 51, .fieldAddr 123 (.tmp 50) 1, none⟩, ⟨some 52, .load 121 (.tmp 51), none⟩, ⟨some 53, .call ⟨.value (.func 116), #[.tmp 52], #[121]⟩, none⟩, ⟨some 54,
 .unOp .not 4 (.tmp 53), none⟩, ⟨some 55, .move (.tmp 54), none⟩, ⟨some 56, .fieldAddr 71 (.tmp 5) 1, some (55, false)⟩, ⟨some 57, .load 66 (.tmp 56), some (55, false)⟩, ⟨some 58, .move (.tmp 7), some
 (55, false)⟩, ⟨some 59, .indexAddr 66 (.tmp 57) (.tmp 58), some (55, false)⟩, ⟨some 60, .fieldAddr 123 (.tmp 59) 0, some (55, false)⟩, ⟨some 61, .load 9 (.tmp 60), some (55, false)⟩, ⟨some 62, .call
 ⟨.value (.func 98), #[.tmp 61], #[9]⟩, some (55, false)⟩, ⟨some 63, .unOp .not 4 (.tmp 62), some (55, false)⟩, ⟨some 64, .pick (.tmp 55) (.const (.bool true)) (.tmp 63), none⟩] ⟨47, 63, []⟩ []) (.cond
 (.tmp 64) (.seq (.reg [⟨some 2, .assign (.const (.bool false)), none⟩] ⟨1, 0, []⟩ []) .ret) .skip)) (.seq (.reg [⟨some 8, .assign (.const (.int .i64 0)), none⟩] ⟨1, 0, []⟩ []) (.block 6 (.loop (.seq
 (.seq (.reg [⟨some 65, .move (.tmp 8), none⟩, ⟨some 66, .move (.tmp 7), none⟩, ⟨some 67, .binOp .lss 3 (.tmp 65) (.tmp 66) 3, none⟩] ⟨65, 66, []⟩ []) (.cond (.tmp 67) .skip (.exit 6))) (.seq (.block 7
 (.seq (.drw [⟨⟨some 70, .fieldAddr 71 (.tmp 5) 1, none⟩, []⟩, ⟨⟨some 71, .load 66 (.tmp 70), none⟩, [70]⟩, ⟨⟨some 72, .move (.tmp 8), none⟩, []⟩, ⟨⟨some 73, .indexAddr 66 (.tmp 71) (.tmp 72), none⟩,
 [71, 70, 72]⟩, ⟨⟨some 74, .fieldAddr 123 (.tmp 73) 0, none⟩, [73, 71, 70, 72]⟩, ⟨⟨some 75, .load 9 (.tmp 74), none⟩, [74, 73, 71, 70, 72]⟩, ⟨⟨some 76, .fieldAddr 71 (.tmp 5) 1, none⟩, []⟩, ⟨⟨some 77,
 .load 66 (.tmp 76), none⟩, [76]⟩, ⟨⟨some 78, .move (.tmp 7), none⟩, []⟩, ⟨⟨some 79, .indexAddr 66 (.tmp 77) (.tmp 78), none⟩, [77, 76, 78]⟩, ⟨⟨some 80, .fieldAddr 123 (.tmp 79) 0, none⟩, [79, 77, 76,
 78]⟩, ⟨⟨some 81, .load 9 (.tmp 80), none⟩, [80, 79, 77, 76, 78]⟩, ⟨⟨some 82, .binOp .eql 9 (.tmp 75) (.tmp 81) 9, none⟩, [75, 74, 73, 71, 70, 72, 81, 80, 79, 77, 76, 78]⟩] [] ⟨70, 82, []⟩ ⟨70, 81, []⟩
 []) (.cond (.tmp 82) (.seq (.reg [⟨some 2, .assign (.const (.bool false)), none⟩] ⟨1, 0, []⟩ []) .ret) .skip))) (.reg [⟨some 68, .move (.tmp 8), none⟩, ⟨some 69, .binOp .add 3 (.tmp 68) (.const (.int
 .i64 1)) 3, none⟩, ⟨some 8, .assign (.tmp 69), none⟩] ⟨68, 69, []⟩ [])))))))) (.reg [⟨some 45, .move (.tmp 7), none⟩, ⟨some 46, .binOp .add 3 (.tmp 45) (.const (.int .i64 1)) 3, none⟩, ⟨some 7, .assign
 (.tmp 46), none⟩] ⟨45, 46, []⟩ [])))))) (.seq (.seq (.reg [⟨some 83, .fieldAddr 71 (.tmp 5) 0, none⟩, ⟨some 84, .load 9 (.tmp 83), none⟩, ⟨some 85, .call ⟨.value (.func 117), #[.tmp 84], #[9]⟩, none⟩,
 ⟨some 86, .unOp .not 4 (.tmp 85), none⟩, ⟨some 87, .move (.tmp 86), none⟩, ⟨some 88, .fieldAddr 71 (.tmp 5) 1, some (87, false)⟩, ⟨some 89, .load 66 (.tmp 88), some (87, false)⟩, ⟨some 90, .call
 ⟨.builtin .len, #[.tmp 89], #[66]⟩, some (87, false)⟩, ⟨some 91, .binOp .gtr 3 (.tmp 90) (.const (.int .i64 4)) 3, some (87, false)⟩, ⟨some 92, .pick (.tmp 87) (.const (.bool true)) (.tmp 91), none⟩,
 ⟨some 93, .move (.tmp 92), none⟩, ⟨some 94, .fieldAddr 71 (.tmp 5) 2, some (93, false)⟩, ⟨some 95, .load 3 (.tmp 94), some (93, false)⟩, ⟨some 96, .move (.tmp 3), some (93, false)⟩, ⟨some 97, .binOp
 .neq 3 (.tmp 95) (.tmp 96) 3, some (93, false)⟩, ⟨some 98, .pick (.tmp 93) (.const (.bool true)) (.tmp 97), none⟩, ⟨some 99, .move (.tmp 98), none⟩, ⟨some 100, .move (.tmp 0), some (99, false)⟩, ⟨some
 101, .fieldAddr 71 (.tmp 5) 3, some (99, false)⟩, ⟨some 102, .load 69 (.tmp 101), some (99, false)⟩, ⟨some 103, .call ⟨.value (.func 118), #[.tmp 100, .tmp 102], #[23, 69]⟩, some (99, false)⟩, ⟨some
 104, .unOp .not 4 (.tmp 103), some (99, false)⟩, ⟨some 105, .pick (.tmp 99) (.const (.bool true)) (.tmp 104), none⟩] ⟨83, 104, []⟩ []) (.cond (.tmp 105) (.seq (.reg [⟨some 2, .assign (.const (.bool
 false)), none⟩] ⟨1, 0, []⟩ []) .ret) .skip)) (.reg [⟨some 106, .move (.tmp 3), none⟩, ⟨some 107, .fieldAddr 71 (.tmp 5) 1, none⟩, ⟨some 108, .load 66 (.tmp 107), none⟩, ⟨some 109, .call ⟨.builtin .len,
 #[.tmp 108], #[66]⟩, none⟩, ⟨some 110, .binOp .add 3 (.tmp 106) (.tmp 109) 3, none⟩, ⟨some 3, .assign (.tmp 110), none⟩] ⟨106, 110, []⟩ [])))))) (.reg [⟨some 21, .move (.tmp 4), none⟩, ⟨some 22, .binOp
 .add 3 (.tmp 21) (.const (.int .i64 1)) 3, none⟩, ⟨some 4, .assign (.tmp 22), none⟩] ⟨21, 22, []⟩ [])))))) (.seq (.reg [⟨some 2, .assign (.const (.bool true)), none⟩] ⟨1, 0, []⟩ []) .ret))))
theorem z100 : FnF Tryz.prog Tryz.f100 111 c100 [.tmp 2] := ⟨by kernel_rfl, by kernel_rfl, by kernel_rfl, by kernel_rfl, by decide⟩
def c101 : AC :=
 .seq (.reg [⟨some 2, .box 27 (.tmp 0), none⟩, ⟨some 4, .assign (.const (.bool false)), none⟩] ⟨1, 0, []⟩ []) (.seq (.reg [⟨some 5, .move (.tmp 1), none⟩, ⟨some 6, .binOp .geq 3 (.tmp 5) (.const (.int
 .i64 0)) 3, none⟩, ⟨some 7, .move (.tmp 6), none⟩, ⟨some 8, .move (.tmp 1), some (7, true)⟩, ⟨some 9, .fieldAddr 27 (.tmp 2) 3, some (7, true)⟩, ⟨some 10, .load 3 (.tmp 9), some (7, true)⟩, ⟨some 11,
 .binOp .lss 3 (.tmp 8) (.tmp 10) 3, some (7, true)⟩, ⟨some 12, .pick (.tmp 7) (.tmp 11) (.const (.bool false)), none⟩, ⟨some 4, .assign (.tmp 12), none⟩] ⟨5, 12, []⟩ []) .ret)
theorem z101 : FnF Tryz.prog Tryz.f101 13 c101 [.tmp 4] := ⟨by kernel_rfl, by kernel_rfl, by kernel_rfl, by kernel_rfl, by decide⟩
def c102 : AC :=
 .seq (.reg [⟨some 1, .box 27 (.tmp 0), none⟩, ⟨some 2, .assign (.const (.slice none 0 0)), none⟩] ⟨1, 0, []⟩ []) (.seq (.reg [⟨some 8, .fieldAddr 27 (.tmp 1) 3, none⟩, ⟨some 9, .load 3 (.tmp 8), none⟩,
 ⟨some 10, .makeSlice 37 (.tmp 9) (.tmp 9), none⟩, ⟨some 3, .assign (.tmp 10), none⟩] ⟨8, 10, []⟩ []) (.seq (.seq (.reg [⟨some 4, .assign (.const (.int .i64 0)), none⟩] ⟨1, 0, []⟩ []) (.block 0 (.loop
 (.seq (.seq (.reg [⟨some 11, .move (.tmp 4), none⟩, ⟨some 12, .fieldAddr 27 (.tmp 1) 3, none⟩, ⟨some 13, .load 3 (.tmp 12), none⟩, ⟨some 14, .binOp .lss 3 (.tmp 11) (.tmp 13) 3, none⟩] ⟨11, 13, []⟩ [])
 (.cond (.tmp 14) .skip (.exit 0))) (.seq (.block 1 (.reg [⟨some 17, .move (.tmp 3), none⟩, ⟨some 18, .move (.tmp 4), none⟩, ⟨some 19, .indexAddr 37 (.tmp 17) (.tmp 18), none⟩, ⟨none, .store 3 (.tmp 19)
 (.const (.int .i64 (-1))), none⟩] ⟨17, 19, []⟩ [])) (.reg [⟨some 15, .move (.tmp 4), none⟩, ⟨some 16, .binOp .add 3 (.tmp 15) (.const (.int .i64 1)) 3, none⟩, ⟨some 4, .assign (.tmp 16), none⟩] ⟨15,
 16, []⟩ [])))))) (.seq (.reg [⟨some 20, .move (.tmp 3), none⟩, ⟨some 21, .fieldAddr 27 (.tmp 1) 5, none⟩, ⟨some 22, .load 3 (.tmp 21), none⟩, ⟨some 23, .indexAddr 37 (.tmp 20) (.tmp 22), none⟩, ⟨none,
 .store 3 (.tmp 23) (.const (.int .i64 0)), none⟩] ⟨20, 23, []⟩ []) (.seq (.seq (.reg [⟨some 5, .assign (.const (.int .i64 0)), none⟩] ⟨1, 0, []⟩ []) (.block 2 (.loop (.seq (.seq (.reg [⟨some 24, .move
 (.tmp 5), none⟩, ⟨some 25, .fieldAddr 27 (.tmp 1) 3, none⟩, ⟨some 26, .load 3 (.tmp 25), none⟩, ⟨some 27, .binOp .lss 3 (.tmp 24) (.tmp 26) 3, none⟩] ⟨24, 26, []⟩ []) (.cond (.tmp 27) .skip (.exit 2)))
 (.seq (.block 3 (.seq (.reg [⟨some 6, .assign (.const (.int .i64 0)), none⟩] ⟨1, 0, []⟩ []) (.block 4 (.loop (.seq (.seq (.reg [⟨some 30, .move (.tmp 6), none⟩, ⟨some 31, .fieldAddr 27 (.tmp 1) 6,
 none⟩, ⟨some 32, .load 24 (.tmp 31), none⟩, ⟨some 33, .call ⟨.builtin .len, #[.tmp 32], #[24]⟩, none⟩, ⟨some 34, .binOp .lss 3 (.tmp 30) (.tmp 33) 3, none⟩] ⟨30, 33, []⟩ []) (.cond (.tmp 34) .skip
 (.exit 4))) (.seq (.block 5 (.seq (.reg [⟨some 37, .fieldAddr 27 (.tmp 1) 6, none⟩, ⟨some 38, .load 24 (.tmp 37), none⟩, ⟨some 39, .move (.tmp 6), none⟩, ⟨some 40, .indexAddr 24 (.tmp 38) (.tmp 39),
 none⟩, ⟨some 41, .load 65 (.tmp 40), none⟩, ⟨some 7, .alloc 65, none⟩, ⟨none, .store 65 (.tmp 7) (.tmp 41), none⟩] ⟨37, 41, []⟩ []) (.seq (.reg [⟨some 42, .move (.tmp 3), none⟩, ⟨some 43, .fieldAddr 65
 (.tmp 7) 2, none⟩, ⟨some 44, .load 3 (.tmp 43), none⟩, ⟨some 45, .indexAddr 37 (.tmp 42) (.tmp 44), none⟩, ⟨some 46, .load 3 (.tmp 45), none⟩, ⟨some 47, .move (.tmp 5), none⟩, ⟨some 48, .binOp .eql 3
 (.tmp 46) (.tmp 47) 3, none⟩, ⟨some 49, .move (.tmp 48), none⟩, ⟨some 50, .move (.tmp 3), some (49, true)⟩, ⟨some 51, .fieldAddr 65 (.tmp 7) 0, some (49, true)⟩, ⟨some 52, .load 3 (.tmp 51), some (49,
 true)⟩, ⟨some 53, .indexAddr 37 (.tmp 50) (.tmp 52), some (49, true)⟩, ⟨some 54, .load 3 (.tmp 53), some (49, true)⟩, ⟨some 55, .binOp .lss 3 (.tmp 54) (.const (.int .i64 0)) 3, some (49, true)⟩, ⟨some
 56, .pick (.tmp 49) (.tmp 55) (.const (.bool false)), none⟩] ⟨42, 55, []⟩ []) (.cond (.tmp 56) (.reg [⟨some 57, .move (.tmp 3), none⟩, ⟨some 58, .fieldAddr 65 (.tmp 7) 0, none⟩, ⟨some 59, .load 3 (.tmp
 58), none⟩, ⟨some 60, .move (.tmp 5), none⟩, ⟨some 61, .binOp .add 3 (.tmp 60) (.const (.int .i64 1)) 3, none⟩, ⟨some 62, .indexAddr 37 (.tmp 57) (.tmp 59), none⟩, ⟨none, .store 3 (.tmp 62) (.tmp 61),
 none⟩] ⟨57, 62, []⟩ []) .skip)))) (.reg [⟨some 35, .move (.tmp 6), none⟩, ⟨some 36, .binOp .add 3 (.tmp 35) (.const (.int .i64 1)) 3, none⟩, ⟨some 6, .assign (.tmp 36), none⟩] ⟨35, 36, []⟩ [])))))))
 (.reg [⟨some 28, .move (.tmp 5), none⟩, ⟨some 29, .binOp .add 3 (.tmp 28) (.const (.int .i64 1)) 3, none⟩, ⟨some 5, .assign (.tmp 29), none⟩] ⟨28, 29, []⟩ [])))))) (.seq (.reg [⟨some 63, .move (.tmp
 3), none⟩, ⟨some 2, .assign (.tmp 63), none⟩] ⟨63, 63, []⟩ []) .ret)))))
theorem z102 : FnF Tryz.prog Tryz.f102 64 c102 [.tmp 2] := ⟨by kernel_rfl, by kernel_rfl, by kernel_rfl, by kernel_rfl, by decide⟩
def c104 : AC :=
 .seq (.reg [⟨some 2, .assign (.const (.bool false)), none⟩] ⟨1, 0, []⟩ []) (.seq (.reg [⟨some 3, .move (.tmp 0), none⟩, ⟨some 4, .move (.tmp 0), none⟩, ⟨some 5, .binOp .neq 3 (.tmp 3) (.tmp 4) 3,
 none⟩, ⟨some 2, .assign (.tmp 5), none⟩] ⟨3, 5, []⟩ []) .ret)
theorem z104 : FnF Tryz.prog Tryz.f104 6 c104 [.tmp 2] := ⟨by kernel_rfl, by kernel_rfl, by kernel_rfl, by kernel_rfl, by decide⟩
def c105 : AC :=
 .seq (.reg [⟨some 2, .assign (.const (.bool false)), none⟩] ⟨1, 0, []⟩ []) (.seq (.reg [⟨some 4, .build 162 #[(0, .const (.string ⟨#[97, 103, 97, 105, 110]⟩)), (1, .const (.string ⟨#[97, 110, 100]⟩)),
 (2, .const (.string ⟨#[97, 115]⟩)), (3, .const (.string ⟨#[97, 116]⟩)), (4, .const (.string ⟨#[99, 97, 108, 108]⟩)), (5, .const (.string ⟨#[99, 104, 111, 105, 99, 101]⟩)), (6, .const (.string ⟨#[101,
 108, 115, 101]⟩)), (7, .const (.string ⟨#[102, 114, 111, 109]⟩)), (8, .const (.string ⟨#[105, 102]⟩)), (9, .const (.string ⟨#[105, 110, 116]⟩)), (10, .const (.string ⟨#[108, 101, 110]⟩)), (11, .const
 (.string ⟨#[108, 111, 111, 112]⟩)), (12, .const (.string ⟨#[109, 101, 115, 115, 97, 103, 101]⟩)), (13, .const (.string ⟨#[111, 102]⟩)), (14, .const (.string ⟨#[111, 102, 102, 101, 114]⟩)), (15, .const
 (.string ⟨#[111, 110]⟩)), (16, .const (.string ⟨#[111, 114]⟩)), (17, .const (.string ⟨#[112, 97, 114]⟩)), (18, .const (.string ⟨#[112, 108, 97, 121, 115]⟩)), (19, .const (.string ⟨#[112, 114, 111, 116,
 111, 99, 111, 108]⟩)), (20, .const (.string ⟨#[115, 101, 114, 118, 105, 99, 101]⟩)), (21, .const (.string ⟨#[116, 101, 120, 116]⟩)), (22, .const (.string ⟨#[116, 105, 109, 101, 115]⟩)), (23, .const
 (.string ⟨#[116, 111]⟩)), (24, .const (.string ⟨#[118, 97, 114]⟩)), (25, .const (.string ⟨#[119, 104, 101, 114, 101]⟩)), (26, .const (.string ⟨#[119, 104, 105, 108, 101]⟩)), (27, .const (.string
 ⟨#[119, 105, 116, 104, 105, 110]⟩))], none⟩, ⟨some 3, .alloc 162, none⟩, ⟨none, .store 162 (.tmp 3) (.tmp 4), none⟩] ⟨4, 4, []⟩ []) (.seq (.reg [⟨some 5, .move (.tmp 0), none⟩, ⟨some 6, .call ⟨.value
 (.func 121), #[.tmp 5], #[9]⟩, none⟩, ⟨some 7, .move (.tmp 6), none⟩, ⟨some 8, .slice 162 (.tmp 3) none none none, some (7, true)⟩, ⟨some 9, .move (.tmp 0), some (7, true)⟩, ⟨some 10, .call ⟨.value
 (.func 106), #[.tmp 8, .tmp 9], #[22, 9]⟩, some (7, true)⟩, ⟨some 11, .unOp .not 4 (.tmp 10), some (7, true)⟩, ⟨some 12, .pick (.tmp 7) (.tmp 11) (.const (.bool false)), none⟩, ⟨some 2, .assign (.tmp
 12), none⟩] ⟨5, 12, []⟩ []) .ret))
theorem z105 : FnF Tryz.prog Tryz.f105 13 c105 [.tmp 2] := ⟨by kernel_rfl, by kernel_rfl, by kernel_rfl, by kernel_rfl, by decide⟩
def c106 : AC :=
 .seq (.reg [⟨some 4, .assign (.const (.bool false)), none⟩] ⟨1, 0, []⟩ []) (.seq (.reg [⟨some 5, .move (.tmp 0), none⟩, ⟨some 6, .move (.tmp 1), none⟩, ⟨some 7, .call ⟨.value (.func 122), #[.tmp 5,
 .tmp 6], #[22, 9]⟩, none⟩, ⟨some 8, .binOp .geq 3 (.tmp 7) (.const (.int .i64 0)) 3, none⟩, ⟨some 4, .assign (.tmp 8), none⟩] ⟨5, 8, []⟩ []) .ret)
theorem z106 : FnF Tryz.prog Tryz.f106 9 c106 [.tmp 4] := ⟨by kernel_rfl, by kernel_rfl, by kernel_rfl, by kernel_rfl, by decide⟩
def c107 : AC :=
 .seq (.reg [⟨some 4, .assign (.const (.slice none 0 0)), none⟩, ⟨some 5, .assign (.const (.int .i64 0)), none⟩] ⟨1, 0, []⟩ []) (.seq (.seq (.reg [⟨some 6, .move (.tmp 1), none⟩, ⟨some 7, .binOp .lss 3
 (.tmp 6) (.const (.int .i64 0)) 3, none⟩, ⟨some 8, .move (.tmp 7), none⟩, ⟨some 9, .move (.tmp 1), some (8, false)⟩, ⟨some 10, .move (.tmp 0), some (8, false)⟩, ⟨some 11, .call ⟨.builtin .len, #[.tmp
 10], #[23]⟩, some (8, false)⟩, ⟨some 12, .binOp .geq 3 (.tmp 9) (.tmp 11) 3, some (8, false)⟩, ⟨some 13, .pick (.tmp 8) (.const (.bool true)) (.tmp 12), none⟩, ⟨some 14, .move (.tmp 13), none⟩, ⟨some
 15, .move (.tmp 0), some (14, false)⟩, ⟨some 16, .call ⟨.value (.func 123), #[.tmp 15], #[23]⟩, some (14, false)⟩, ⟨some 17, .unOp .not 4 (.tmp 16), some (14, false)⟩, ⟨some 18, .pick (.tmp 14) (.const
 (.bool true)) (.tmp 17), none⟩] ⟨6, 17, []⟩ []) (.cond (.tmp 18) (.seq (.reg [⟨some 4, .assign (.const (.slice none 0 0)), none⟩, ⟨some 5, .assign (.const (.int .i64 1)), none⟩] ⟨1, 0, []⟩ []) .ret)
 .skip)) (.seq (.reg [⟨some 19, .move (.tmp 0), none⟩, ⟨some 20, .move (.tmp 1), none⟩, ⟨some 21, .indexAddr 23 (.tmp 19) (.tmp 20), none⟩, ⟨some 22, .load 71 (.tmp 21), none⟩, ⟨some 23, .call ⟨.value
 (.func 124), #[.tmp 22], #[71]⟩, none⟩, ⟨some 4, .assign (.tmp 23), none⟩, ⟨some 5, .assign (.const (.int .i64 0)), none⟩] ⟨19, 23, []⟩ []) .ret))
theorem z107 : FnF Tryz.prog Tryz.f107 24 c107 [.tmp 4, .tmp 5] := ⟨by kernel_rfl, by kernel_rfl, by kernel_rfl, by kernel_rfl, by decide⟩
def c108 : AC :=
 .seq (.reg [⟨some 4, .assign (.const (.int .i64 0)), none⟩] ⟨1, 0, []⟩ []) (.seq (.seq (.reg [⟨some 6, .move (.tmp 0), none⟩, ⟨some 7, .call ⟨.builtin .len, #[.tmp 6], #[37]⟩, none⟩, ⟨some 8, .move
 (.const (.int .i64 0)), none⟩] ⟨6, 6, []⟩ []) (.block 0 (.loop (.seq (.reg [⟨some 9, .binOp .lss 3 (.tmp 8) (.tmp 7) 3, none⟩] ⟨1, 0, []⟩ []) (.seq (.cond (.tmp 9) .skip (.exit 0)) (.seq (.block 1
 (.seq (.reg [⟨some 10, .move (.tmp 8), none⟩, ⟨some 5, .assign (.tmp 10), none⟩] ⟨10, 10, []⟩ []) (.seq (.reg [⟨some 11, .move (.tmp 1), none⟩, ⟨some 12, .move (.tmp 0), none⟩, ⟨some 13, .move (.tmp
 5), none⟩, ⟨some 14, .indexAddr 37 (.tmp 12) (.tmp 13), none⟩, ⟨some 15, .load 3 (.tmp 14), none⟩, ⟨some 16, .binOp .eql 3 (.tmp 11) (.tmp 15) 3, none⟩] ⟨11, 15, []⟩ []) (.cond (.tmp 16) (.seq (.reg
 [⟨some 17, .move (.tmp 5), none⟩, ⟨some 4, .assign (.tmp 17), none⟩] ⟨17, 17, []⟩ []) .ret) .skip)))) (.reg [⟨some 18, .binOp .add 3 (.tmp 8) (.const (.int .i64 1)) 3, none⟩, ⟨some 8, .move (.tmp 18),
 none⟩] ⟨18, 18, []⟩ []))))))) (.seq (.reg [⟨some 4, .assign (.const (.int .i64 (-1))), none⟩] ⟨1, 0, []⟩ []) .ret))
theorem z108 : FnF Tryz.prog Tryz.f108 19 c108 [.tmp 4] := ⟨by kernel_rfl, by kernel_rfl, by kernel_rfl, by kernel_rfl, by decide⟩
def c109 : AC :=
 .seq (.reg [⟨some 4, .assign (.const (.slice none 0 0)), none⟩] ⟨1, 0, []⟩ []) (.seq (.seq (.reg [⟨some 9, .move (.tmp 1), none⟩, ⟨some 10, .binOp .lss 3 (.tmp 9) (.const (.int .i64 0)) 3, none⟩] ⟨9,
 9, []⟩ []) (.cond (.tmp 10) (.reg [⟨some 11, .makeInterface 9 (.const (.string ⟨#[99, 97, 110, 110, 111, 116, 32, 98, 101, 32, 110, 101, 103, 97, 116, 105, 118, 101]⟩)), none⟩, ⟨none, .panic (.tmp 11),
 none⟩] ⟨11, 11, []⟩ []) .skip)) (.seq (.reg [⟨some 13, .move (.tmp 0), none⟩, ⟨some 14, .call ⟨.builtin .len, #[.tmp 13], #[37]⟩, none⟩, ⟨some 15, .convert 3 164 (.tmp 14), none⟩, ⟨some 16, .move (.tmp
 1), none⟩, ⟨some 17, .convert 3 164 (.tmp 16), none⟩, ⟨some 18, .call ⟨.value (.func 125), #[.tmp 15, .tmp 17], #[164, 164]⟩, none⟩, ⟨some 12, .move (.tmp 18), none⟩, ⟨some 19, .extract (.tmp 12) 0,
 none⟩, ⟨some 20, .extract (.tmp 12) 1, none⟩, ⟨some 5, .assign (.tmp 19), none⟩, ⟨some 6, .assign (.tmp 20), none⟩] ⟨12, 20, []⟩ []) (.seq (.seq (.reg [⟨some 21, .move (.tmp 5), none⟩, ⟨some 22, .binOp
 .gtr 164 (.tmp 21) (.const (.int .u64 0)) 164, none⟩, ⟨some 23, .move (.tmp 22), none⟩, ⟨some 24, .move (.tmp 6), some (23, false)⟩, ⟨some 25, .binOp .gtr 164 (.tmp 24) (.const (.int .u64
 9223372036854775807)) 164, some (23, false)⟩, ⟨some 26, .pick (.tmp 23) (.const (.bool true)) (.tmp 25), none⟩] ⟨21, 25, []⟩ []) (.cond (.tmp 26) (.reg [⟨some 27, .makeInterface 9 (.const (.string
 ⟨#[116, 104, 101, 32, 114, 101, 115, 117, 108, 116, 32, 111, 102, 32, 40, 108, 101, 110, 40, 120, 41, 32, 42, 32, 99, 111, 117, 110, 116, 41, 32, 111, 118, 101, 114, 102, 108, 111, 119, 115]⟩)), none⟩,
 ⟨none, .panic (.tmp 27), none⟩] ⟨27, 27, []⟩ []) .skip)) (.seq (.reg [⟨some 28, .move (.tmp 6), none⟩, ⟨some 29, .convert 164 3 (.tmp 28), none⟩, ⟨some 30, .makeSlice 37 (.tmp 29) (.tmp 29), none⟩,
 ⟨some 7, .assign (.tmp 30), none⟩] ⟨28, 30, []⟩ []) (.seq (.reg [⟨some 31, .move (.tmp 7), none⟩, ⟨some 32, .move (.tmp 0), none⟩, ⟨some 33, .call ⟨.builtin .copy, #[.tmp 31, .tmp 32], #[37, 37]⟩,
 none⟩, ⟨some 8, .assign (.tmp 33), none⟩] ⟨31, 33, []⟩ []) (.seq (.block 0 (.loop (.seq (.seq (.reg [⟨some 34, .move (.tmp 8), none⟩, ⟨some 35, .move (.tmp 7), none⟩, ⟨some 36, .call ⟨.builtin .len,
 #[.tmp 35], #[37]⟩, none⟩, ⟨some 37, .binOp .lss 3 (.tmp 34) (.tmp 36) 3, none⟩] ⟨34, 36, []⟩ []) (.cond (.tmp 37) .skip (.exit 0))) (.block 1 (.drw [⟨⟨some 38, .move (.tmp 8), none⟩, []⟩, ⟨⟨some 39,
 .move (.tmp 7), none⟩, []⟩, ⟨⟨some 40, .move (.tmp 8), none⟩, []⟩, ⟨⟨some 41, .slice 37 (.tmp 39) (some (.tmp 40)) none none, none⟩, [39, 40]⟩, ⟨⟨some 42, .move (.tmp 7), none⟩, []⟩, ⟨⟨some 43, .move
 (.tmp 8), none⟩, []⟩, ⟨⟨some 44, .slice 37 (.tmp 42) none (some (.tmp 43)) none, none⟩, [42, 43]⟩] [⟨⟨some 45, .call ⟨.builtin .copy, #[.tmp 41, .tmp 44], #[37, 37]⟩, none⟩, [41, 39, 40, 44, 42, 43],
 [true, false, false, false, false, false, false]⟩, ⟨⟨some 46, .binOp .add 3 (.tmp 38) (.tmp 45) 3, none⟩, [38], []⟩, ⟨⟨some 8, .assign (.tmp 46), none⟩, [], []⟩] ⟨38, 44, []⟩ ⟨38, 46, []⟩ []))))) (.seq
 (.reg [⟨some 47, .move (.tmp 7), none⟩, ⟨some 4, .assign (.tmp 47), none⟩] ⟨47, 47, []⟩ []) .ret)))))))
theorem z109 : FnF Tryz.prog Tryz.f109 48 c109 [.tmp 4] := ⟨by kernel_rfl, by kernel_rfl, by kernel_rfl, by kernel_rfl, by decide⟩
def c110 : AC :=
 .seq (.reg [⟨some 4, .assign (.const (.int .i64 0)), none⟩] ⟨1, 0, []⟩ []) (.seq (.seq (.reg [⟨some 9, .move (.tmp 0), none⟩, ⟨some 10, .call ⟨.builtin .len, #[.tmp 9], #[37]⟩, none⟩, ⟨some 11, .move
 (.const (.int .i64 0)), none⟩] ⟨1, 0, []⟩ []) (.block 0 (.loop (.seq (.reg [⟨some 12, .binOp .lss 3 (.tmp 11) (.tmp 10) 3, none⟩] ⟨1, 0, []⟩ []) (.seq (.cond (.tmp 12) .skip (.exit 0)) (.seq (.block 1
 (.seq (.reg [⟨some 13, .move (.tmp 11), none⟩, ⟨some 14, .indexAddr 37 (.tmp 9) (.tmp 11), none⟩, ⟨some 15, .load 3 (.tmp 14), none⟩, ⟨some 5, .assign (.tmp 13), none⟩, ⟨some 6, .assign (.tmp 15),
 none⟩] ⟨13, 15, []⟩ []) (.seq (.seq (.reg [⟨some 16, .move (.tmp 5), none⟩, ⟨some 17, .move (.tmp 1), none⟩, ⟨some 18, .call ⟨.builtin .len, #[.tmp 17], #[37]⟩, none⟩, ⟨some 19, .binOp .geq 3 (.tmp 16)
 (.tmp 18) 3, none⟩] ⟨16, 18, []⟩ []) (.cond (.tmp 19) (.seq (.reg [⟨some 4, .assign (.const (.int .i64 1)), none⟩] ⟨1, 0, []⟩ []) .ret) .skip)) (.seq (.reg [⟨some 20, .move (.tmp 1), none⟩, ⟨some 21,
 .move (.tmp 5), none⟩, ⟨some 22, .indexAddr 37 (.tmp 20) (.tmp 21), none⟩, ⟨some 23, .load 3 (.tmp 22), none⟩, ⟨some 7, .assign (.tmp 23), none⟩] ⟨20, 23, []⟩ []) (.seq (.reg [⟨some 24, .move (.tmp 6),
 none⟩, ⟨some 25, .move (.tmp 7), none⟩, ⟨some 26, .call ⟨.value (.func 66), #[.tmp 24, .tmp 25], #[3, 3]⟩, none⟩, ⟨some 8, .assign (.tmp 26), none⟩] ⟨24, 26, []⟩ []) (.seq (.reg [⟨some 27, .move (.tmp
 8), none⟩, ⟨some 28, .binOp .neq 3 (.tmp 27) (.const (.int .i64 0)) 3, none⟩] ⟨27, 27, []⟩ []) (.cond (.tmp 28) (.seq (.reg [⟨some 29, .move (.tmp 8), none⟩, ⟨some 4, .assign (.tmp 29), none⟩] ⟨29, 29,
 []⟩ []) .ret) .skip))))))) (.reg [⟨some 30, .binOp .add 3 (.tmp 11) (.const (.int .i64 1)) 3, none⟩, ⟨some 11, .move (.tmp 30), none⟩] ⟨30, 30, []⟩ []))))))) (.seq (.seq (.reg [⟨some 31, .move (.tmp
 0), none⟩, ⟨some 32, .call ⟨.builtin .len, #[.tmp 31], #[37]⟩, none⟩, ⟨some 33, .move (.tmp 1), none⟩, ⟨some 34, .call ⟨.builtin .len, #[.tmp 33], #[37]⟩, none⟩, ⟨some 35, .binOp .lss 3 (.tmp 32) (.tmp
 34) 3, none⟩] ⟨31, 34, []⟩ []) (.cond (.tmp 35) (.seq (.reg [⟨some 4, .assign (.const (.int .i64 (-1))), none⟩] ⟨1, 0, []⟩ []) .ret) .skip)) (.seq (.reg [⟨some 4, .assign (.const (.int .i64 0)), none⟩]
 ⟨1, 0, []⟩ []) .ret)))
theorem z110 : FnF Tryz.prog Tryz.f110 36 c110 [.tmp 4] := ⟨by kernel_rfl, by kernel_rfl, by kernel_rfl, by kernel_rfl, by decide⟩
def c113 : AC :=
 .seq (.reg [⟨some 2, .assign (.const (.bool false)), none⟩] ⟨1, 0, []⟩ []) (.seq (.seq (.reg [⟨some 4, .move (.tmp 0), none⟩, ⟨some 5, .binOp .eql 9 (.tmp 4) (.const (.string ⟨#[]⟩)) 9, none⟩, ⟨some 6,
 .move (.tmp 5), none⟩, ⟨some 7, .move (.tmp 0), some (6, false)⟩, ⟨some 8, .index 9 (.tmp 7) (.const (.int .i64 0)), some (6, false)⟩, ⟨some 9, .call ⟨.value (.func 126), #[.tmp 8], #[5]⟩, some (6,
 false)⟩, ⟨some 10, .unOp .not 4 (.tmp 9), some (6, false)⟩, ⟨some 11, .pick (.tmp 6) (.const (.bool true)) (.tmp 10), none⟩, ⟨some 12, .move (.tmp 11), none⟩, ⟨some 13, .move (.tmp 0), some (12,
 false)⟩, ⟨some 14, .call ⟨.builtin .len, #[.tmp 13], #[9]⟩, some (12, false)⟩, ⟨some 15, .binOp .gtr 3 (.tmp 14) (.const (.int .i64 16)) 3, some (12, false)⟩, ⟨some 16, .pick (.tmp 12) (.const (.bool
 true)) (.tmp 15), none⟩] ⟨4, 15, []⟩ []) (.cond (.tmp 16) (.seq (.reg [⟨some 2, .assign (.const (.bool false)), none⟩] ⟨1, 0, []⟩ []) .ret) .skip)) (.seq (.seq (.reg [⟨some 3, .assign (.const (.int
 .i64 0)), none⟩] ⟨1, 0, []⟩ []) (.block 0 (.loop (.seq (.seq (.reg [⟨some 17, .move (.tmp 3), none⟩, ⟨some 18, .move (.tmp 0), none⟩, ⟨some 19, .call ⟨.builtin .len, #[.tmp 18], #[9]⟩, none⟩, ⟨some 20,
 .binOp .lss 3 (.tmp 17) (.tmp 19) 3, none⟩] ⟨17, 19, []⟩ []) (.cond (.tmp 20) .skip (.exit 0))) (.seq (.block 1 (.seq (.reg [⟨some 23, .move (.tmp 0), none⟩, ⟨some 24, .move (.tmp 3), none⟩, ⟨some 25,
 .index 9 (.tmp 23) (.tmp 24), none⟩, ⟨some 26, .call ⟨.value (.func 127), #[.tmp 25], #[5]⟩, none⟩, ⟨some 27, .unOp .not 4 (.tmp 26), none⟩] ⟨23, 26, []⟩ []) (.cond (.tmp 27) (.seq (.reg [⟨some 2,
 .assign (.const (.bool false)), none⟩] ⟨1, 0, []⟩ []) .ret) .skip))) (.reg [⟨some 21, .move (.tmp 3), none⟩, ⟨some 22, .binOp .add 3 (.tmp 21) (.const (.int .i64 1)) 3, none⟩, ⟨some 3, .assign (.tmp
 22), none⟩] ⟨21, 22, []⟩ [])))))) (.seq (.reg [⟨some 2, .assign (.const (.bool true)), none⟩] ⟨1, 0, []⟩ []) .ret)))
theorem z113 : FnF Tryz.prog Tryz.f113 28 c113 [.tmp 2] := ⟨by kernel_rfl, by kernel_rfl, by kernel_rfl, by kernel_rfl, by decide⟩
def c114 : AC :=
 .seq (.reg [⟨some 4, .assign (.const (.bool false)), none⟩] ⟨1, 0, []⟩ []) (.seq (.seq (.reg [⟨some 5, .assign (.const (.int .i64 0)), none⟩] ⟨1, 0, []⟩ []) (.block 0 (.loop (.seq (.seq (.reg [⟨some 6,
 .move (.tmp 5), none⟩, ⟨some 7, .move (.tmp 0), none⟩, ⟨some 8, .call ⟨.builtin .len, #[.tmp 7], #[22]⟩, none⟩, ⟨some 9, .binOp .lss 3 (.tmp 6) (.tmp 8) 3, none⟩] ⟨6, 8, []⟩ []) (.cond (.tmp 9) .skip
 (.exit 0))) (.seq (.block 1 (.seq (.reg [⟨some 12, .move (.tmp 0), none⟩, ⟨some 13, .move (.tmp 5), none⟩, ⟨some 14, .indexAddr 22 (.tmp 12) (.tmp 13), none⟩, ⟨some 15, .load 9 (.tmp 14), none⟩, ⟨some
 16, .move (.tmp 1), none⟩, ⟨some 17, .binOp .eql 9 (.tmp 15) (.tmp 16) 9, none⟩] ⟨12, 16, []⟩ []) (.cond (.tmp 17) (.seq (.reg [⟨some 4, .assign (.const (.bool true)), none⟩] ⟨1, 0, []⟩ []) .ret)
 .skip))) (.reg [⟨some 10, .move (.tmp 5), none⟩, ⟨some 11, .binOp .add 3 (.tmp 10) (.const (.int .i64 1)) 3, none⟩, ⟨some 5, .assign (.tmp 11), none⟩] ⟨10, 11, []⟩ [])))))) (.seq (.reg [⟨some 4,
 .assign (.const (.bool false)), none⟩] ⟨1, 0, []⟩ []) .ret))
theorem z114 : FnF Tryz.prog Tryz.f114 18 c114 [.tmp 4] := ⟨by kernel_rfl, by kernel_rfl, by kernel_rfl, by kernel_rfl, by decide⟩
def c115 : AC :=
 .seq (.reg [⟨some 0, .assign (.const (.slice none 0 0)), none⟩] ⟨1, 0, []⟩ []) (.seq (.reg [⟨some 1, .buildSlice 22 28 #[(0, .const (.string ⟨#[97, 103, 97, 105, 110]⟩)), (1, .const (.string ⟨#[97,
 110, 100]⟩)), (2, .const (.string ⟨#[97, 115]⟩)), (3, .const (.string ⟨#[97, 116]⟩)), (4, .const (.string ⟨#[99, 97, 108, 108]⟩)), (5, .const (.string ⟨#[99, 104, 111, 105, 99, 101]⟩)), (6, .const
 (.string ⟨#[101, 108, 115, 101]⟩)), (7, .const (.string ⟨#[102, 114, 111, 109]⟩)), (8, .const (.string ⟨#[105, 102]⟩)), (9, .const (.string ⟨#[105, 110, 116]⟩)), (10, .const (.string ⟨#[108, 101,
 110]⟩)), (11, .const (.string ⟨#[108, 111, 111, 112]⟩)), (12, .const (.string ⟨#[109, 101, 115, 115, 97, 103, 101]⟩)), (13, .const (.string ⟨#[111, 102]⟩)), (14, .const (.string ⟨#[111, 102, 102, 101,
 114]⟩)), (15, .const (.string ⟨#[111, 110]⟩)), (16, .const (.string ⟨#[111, 114]⟩)), (17, .const (.string ⟨#[112, 97, 114]⟩)), (18, .const (.string ⟨#[112, 108, 97, 121, 115]⟩)), (19, .const (.string
 ⟨#[112, 114, 111, 116, 111, 99, 111, 108]⟩)), (20, .const (.string ⟨#[115, 101, 114, 118, 105, 99, 101]⟩)), (21, .const (.string ⟨#[116, 101, 120, 116]⟩)), (22, .const (.string ⟨#[116, 105, 109, 101,
 115]⟩)), (23, .const (.string ⟨#[116, 111]⟩)), (24, .const (.string ⟨#[118, 97, 114]⟩)), (25, .const (.string ⟨#[119, 104, 101, 114, 101]⟩)), (26, .const (.string ⟨#[119, 104, 105, 108, 101]⟩)), (27,
 .const (.string ⟨#[119, 105, 116, 104, 105, 110]⟩))], none⟩, ⟨some 0, .assign (.tmp 1), none⟩] ⟨1, 1, []⟩ []) .ret)
theorem z115 : FnF Tryz.prog Tryz.f115 2 c115 [.tmp 0] := ⟨by kernel_rfl, by kernel_rfl, by kernel_rfl, by kernel_rfl, by decide⟩
def c116 : AC :=
 .seq (.reg [⟨some 1, .box 121 (.tmp 0), none⟩, ⟨some 2, .assign (.const (.bool false)), none⟩] ⟨1, 0, []⟩ []) (.seq (.reg [⟨some 3, .assign (.const (.int .i64 (-1000))), none⟩, ⟨some 4, .assign (.const
 (.int .i64 1000)), none⟩] ⟨1, 0, []⟩ []) (.seq (.seq (.reg [⟨some 5, .fieldAddr 121 (.tmp 1) 0, none⟩, ⟨some 6, .load 3 (.tmp 5), none⟩, ⟨some 7, .binOp .eql 3 (.tmp 6) (.const (.int .i64 2)) 3, none⟩]
 ⟨5, 6, []⟩ []) (.cond (.tmp 7) (.reg [⟨some 3, .assign (.const (.int .i64 0)), none⟩, ⟨some 4, .assign (.const (.int .i64 40)), none⟩] ⟨1, 0, []⟩ []) .skip)) (.seq (.reg [⟨some 8, .fieldAddr 121 (.tmp
 1) 0, none⟩, ⟨some 9, .load 3 (.tmp 8), none⟩, ⟨some 10, .binOp .eql 3 (.tmp 9) (.const (.int .i64 1)) 3, none⟩, ⟨some 11, .move (.tmp 10), none⟩, ⟨some 12, .fieldAddr 121 (.tmp 1) 0, some (11,
 false)⟩, ⟨some 13, .load 3 (.tmp 12), some (11, false)⟩, ⟨some 14, .binOp .eql 3 (.tmp 13) (.const (.int .i64 2)) 3, some (11, false)⟩, ⟨some 15, .pick (.tmp 11) (.const (.bool true)) (.tmp 14), none⟩,
 ⟨some 16, .move (.tmp 15), none⟩, ⟨some 17, .fieldAddr 121 (.tmp 1) 1, some (16, true)⟩, ⟨some 18, .load 3 (.tmp 17), some (16, true)⟩, ⟨some 19, .move (.tmp 3), some (16, true)⟩, ⟨some 20, .binOp .geq
 3 (.tmp 18) (.tmp 19) 3, some (16, true)⟩, ⟨some 21, .pick (.tmp 16) (.tmp 20) (.const (.bool false)), none⟩, ⟨some 22, .move (.tmp 21), none⟩, ⟨some 23, .fieldAddr 121 (.tmp 1) 2, some (22, true)⟩,
 ⟨some 24, .load 3 (.tmp 23), some (22, true)⟩, ⟨some 25, .move (.tmp 4), some (22, true)⟩, ⟨some 26, .binOp .leq 3 (.tmp 24) (.tmp 25) 3, some (22, true)⟩, ⟨some 27, .pick (.tmp 22) (.tmp 26) (.const
 (.bool false)), none⟩, ⟨some 28, .move (.tmp 27), none⟩, ⟨some 29, .fieldAddr 121 (.tmp 1) 1, some (28, true)⟩, ⟨some 30, .load 3 (.tmp 29), some (28, true)⟩, ⟨some 31, .fieldAddr 121 (.tmp 1) 2, some
 (28, true)⟩, ⟨some 32, .load 3 (.tmp 31), some (28, true)⟩, ⟨some 33, .binOp .leq 3 (.tmp 30) (.tmp 32) 3, some (28, true)⟩, ⟨some 34, .pick (.tmp 28) (.tmp 33) (.const (.bool false)), none⟩, ⟨some 2,
 .assign (.tmp 34), none⟩] ⟨8, 34, []⟩ []) .ret)))
theorem z116 : FnF Tryz.prog Tryz.f116 35 c116 [.tmp 2] := ⟨by kernel_rfl, by kernel_rfl, by kernel_rfl, by kernel_rfl, by decide⟩
def c117 : AC :=
 .seq (.reg [⟨some 2, .assign (.const (.bool false)), none⟩] ⟨1, 0, []⟩ []) (.seq (.reg [⟨some 3, .assign (.const (.int .i64 0)), none⟩] ⟨1, 0, []⟩ []) (.seq (.seq (.reg [⟨some 4, .assign (.const (.int
 .i64 0)), none⟩] ⟨1, 0, []⟩ []) (.block 0 (.loop (.seq (.seq (.reg [⟨some 5, .move (.tmp 4), none⟩, ⟨some 6, .move (.tmp 0), none⟩, ⟨some 7, .call ⟨.builtin .len, #[.tmp 6], #[9]⟩, none⟩, ⟨some 8,
 .binOp .leq 3 (.tmp 5) (.tmp 7) 3, none⟩] ⟨5, 7, []⟩ []) (.cond (.tmp 8) .skip (.exit 0))) (.seq (.block 1 (.seq (.reg [⟨some 11, .move (.tmp 4), none⟩, ⟨some 12, .move (.tmp 0), none⟩, ⟨some 13, .call
 ⟨.builtin .len, #[.tmp 12], #[9]⟩, none⟩, ⟨some 14, .binOp .eql 3 (.tmp 11) (.tmp 13) 3, none⟩, ⟨some 15, .move (.tmp 14), none⟩, ⟨some 16, .move (.tmp 0), some (15, false)⟩, ⟨some 17, .move (.tmp 4),
 some (15, false)⟩, ⟨some 18, .index 9 (.tmp 16) (.tmp 17), some (15, false)⟩, ⟨some 19, .binOp .eql 5 (.tmp 18) (.const (.int .u8 46)) 5, some (15, false)⟩, ⟨some 20, .pick (.tmp 15) (.const (.bool
 true)) (.tmp 19), none⟩] ⟨11, 19, []⟩ []) (.cond (.tmp 20) (.seq (.seq (.reg [⟨some 21, .move (.tmp 0), none⟩, ⟨some 22, .move (.tmp 3), none⟩, ⟨some 23, .move (.tmp 4), none⟩, ⟨some 24, .slice 9 (.tmp
 21) (some (.tmp 22)) (some (.tmp 23)) none, none⟩, ⟨some 25, .call ⟨.value (.func 128), #[.tmp 24], #[9]⟩, none⟩, ⟨some 26, .unOp .not 4 (.tmp 25), none⟩] ⟨21, 25, []⟩ []) (.cond (.tmp 26) (.seq (.reg
 [⟨some 2, .assign (.const (.bool false)), none⟩] ⟨1, 0, []⟩ []) .ret) .skip)) (.reg [⟨some 27, .move (.tmp 4), none⟩, ⟨some 28, .binOp .add 3 (.tmp 27) (.const (.int .i64 1)) 3, none⟩, ⟨some 3, .assign
 (.tmp 28), none⟩] ⟨27, 28, []⟩ [])) .skip))) (.reg [⟨some 9, .move (.tmp 4), none⟩, ⟨some 10, .binOp .add 3 (.tmp 9) (.const (.int .i64 1)) 3, none⟩, ⟨some 4, .assign (.tmp 10), none⟩] ⟨9, 10, []⟩
 [])))))) (.seq (.reg [⟨some 29, .move (.tmp 0), none⟩, ⟨some 30, .call ⟨.builtin .len, #[.tmp 29], #[9]⟩, none⟩, ⟨some 31, .binOp .leq 3 (.tmp 30) (.const (.int .i64 50)) 3, none⟩, ⟨some 2, .assign
 (.tmp 31), none⟩] ⟨29, 31, []⟩ []) .ret)))
theorem z117 : FnF Tryz.prog Tryz.f117 32 c117 [.tmp 2] := ⟨by kernel_rfl, by kernel_rfl, by kernel_rfl, by kernel_rfl, by decide⟩
def c118 : AC :=
 .seq (.reg [⟨some 3, .box 69 (.tmp 1), none⟩, ⟨some 4, .assign (.const (.bool false)), none⟩] ⟨1, 0, []⟩ []) (.seq (.reg [⟨some 9, .move (.tmp 0), none⟩, ⟨some 10, .call ⟨.value (.func 41), #[.tmp 9],
 #[23]⟩, none⟩, ⟨some 5, .assign (.tmp 10), none⟩] ⟨9, 10, []⟩ []) (.seq (.seq (.reg [⟨some 6, .assign (.const (.int .i64 0)), none⟩] ⟨1, 0, []⟩ []) (.block 0 (.loop (.seq (.seq (.reg [⟨some 11, .move
 (.tmp 6), none⟩, ⟨some 12, .fieldAddr 69 (.tmp 3) 0, none⟩, ⟨some 13, .load 67 (.tmp 12), none⟩, ⟨some 14, .call ⟨.builtin .len, #[.tmp 13], #[67]⟩, none⟩, ⟨some 15, .binOp .lss 3 (.tmp 11) (.tmp 14)
 3, none⟩] ⟨11, 14, []⟩ []) (.cond (.tmp 15) .skip (.exit 0))) (.seq (.block 1 (.seq (.reg [⟨some 18, .fieldAddr 69 (.tmp 3) 0, none⟩, ⟨some 19, .load 67 (.tmp 18), none⟩, ⟨some 20, .move (.tmp 6),
 none⟩, ⟨some 21, .indexAddr 67 (.tmp 19) (.tmp 20), none⟩, ⟨some 22, .load 126 (.tmp 21), none⟩, ⟨some 7, .alloc 126, none⟩, ⟨none, .store 126 (.tmp 7) (.tmp 22), none⟩] ⟨18, 22, []⟩ []) (.seq (.reg
 [⟨some 23, .fieldAddr 126 (.tmp 7) 0, none⟩, ⟨some 24, .load 3 (.tmp 23), none⟩, ⟨some 25, .binOp .lss 3 (.tmp 24) (.const (.int .i64 (-1))) 3, none⟩, ⟨some 26, .move (.tmp 25), none⟩, ⟨some 27,
 .fieldAddr 126 (.tmp 7) 0, some (26, false)⟩, ⟨some 28, .load 3 (.tmp 27), some (26, false)⟩, ⟨some 29, .move (.tmp 5), some (26, false)⟩, ⟨some 30, .binOp .geq 3 (.tmp 28) (.tmp 29) 3, some (26,
 false)⟩, ⟨some 31, .pick (.tmp 26) (.const (.bool true)) (.tmp 30), none⟩, ⟨some 32, .move (.tmp 31), none⟩, ⟨some 33, .fieldAddr 126 (.tmp 7) 1, some (32, false)⟩, ⟨some 34, .load 3 (.tmp 33), some
 (32, false)⟩, ⟨some 35, .binOp .lss 3 (.tmp 34) (.const (.int .i64 (-1))) 3, some (32, false)⟩, ⟨some 36, .pick (.tmp 32) (.const (.bool true)) (.tmp 35), none⟩, ⟨some 37, .move (.tmp 36), none⟩, ⟨some
 38, .fieldAddr 126 (.tmp 7) 1, some (37, false)⟩, ⟨some 39, .load 3 (.tmp 38), some (37, false)⟩, ⟨some 40, .move (.tmp 5), some (37, false)⟩, ⟨some 41, .binOp .geq 3 (.tmp 39) (.tmp 40) 3, some (37,
 false)⟩, ⟨some 42, .pick (.tmp 37) (.const (.bool true)) (.tmp 41), none⟩, ⟨some 43, .move (.tmp 42), none⟩, ⟨some 44, .fieldAddr 126 (.tmp 7) 2, some (43, false)⟩, ⟨some 45, .load 3 (.tmp 44), some
 (43, false)⟩, ⟨some 46, .binOp .lss 3 (.tmp 45) (.const (.int .i64 (-20000))) 3, some (43, false)⟩, ⟨some 47, .pick (.tmp 43) (.const (.bool true)) (.tmp 46), none⟩, ⟨some 48, .move (.tmp 47), none⟩,
 ⟨some 49, .fieldAddr 126 (.tmp 7) 2, some (48, false)⟩, ⟨some 50, .load 3 (.tmp 49), some (48, false)⟩, ⟨some 51, .binOp .gtr 3 (.tmp 50) (.const (.int .i64 20000)) 3, some (48, false)⟩, ⟨some 52,
 .pick (.tmp 48) (.const (.bool true)) (.tmp 51), none⟩] ⟨23, 51, []⟩ []) (.cond (.tmp 52) (.seq (.reg [⟨some 4, .assign (.const (.bool false)), none⟩] ⟨1, 0, []⟩ []) .ret) .skip)))) (.reg [⟨some 16,
 .move (.tmp 6), none⟩, ⟨some 17, .binOp .add 3 (.tmp 16) (.const (.int .i64 1)) 3, none⟩, ⟨some 6, .assign (.tmp 17), none⟩] ⟨16, 17, []⟩ [])))))) (.seq (.seq (.reg [⟨some 8, .assign (.const (.int .i64
 0)), none⟩] ⟨1, 0, []⟩ []) (.block 2 (.loop (.seq (.seq (.reg [⟨some 53, .move (.tmp 8), none⟩, ⟨some 54, .fieldAddr 69 (.tmp 3) 1, none⟩, ⟨some 55, .load 38 (.tmp 54), none⟩, ⟨some 56, .call ⟨.builtin
 .len, #[.tmp 55], #[38]⟩, none⟩, ⟨some 57, .binOp .lss 3 (.tmp 53) (.tmp 56) 3, none⟩] ⟨53, 56, []⟩ []) (.cond (.tmp 57) .skip (.exit 2))) (.seq (.block 3 (.seq (.reg [⟨some 60, .move (.tmp 0), none⟩,
 ⟨some 61, .fieldAddr 69 (.tmp 3) 1, none⟩, ⟨some 62, .load 38 (.tmp 61), none⟩, ⟨some 63, .move (.tmp 8), none⟩, ⟨some 64, .indexAddr 38 (.tmp 62) (.tmp 63), none⟩, ⟨some 65, .indexAddr 61 (.tmp 64)
 (.const (.int .i64 0)), none⟩, ⟨some 66, .load 3 (.tmp 65), none⟩, ⟨some 67, .call ⟨.value (.func 129), #[.tmp 60, .tmp 66], #[23, 3]⟩, none⟩, ⟨some 68, .unOp .not 4 (.tmp 67), none⟩, ⟨some 69, .move
 (.tmp 68), none⟩, ⟨some 70, .move (.tmp 0), some (69, false)⟩, ⟨some 71, .fieldAddr 69 (.tmp 3) 1, some (69, false)⟩, ⟨some 72, .load 38 (.tmp 71), some (69, false)⟩, ⟨some 73, .move (.tmp 8), some
 (69, false)⟩, ⟨some 74, .indexAddr 38 (.tmp 72) (.tmp 73), some (69, false)⟩, ⟨some 75, .indexAddr 61 (.tmp 74) (.const (.int .i64 1)), some (69, false)⟩, ⟨some 76, .load 3 (.tmp 75), some (69,
 false)⟩, ⟨some 77, .call ⟨.value (.func 129), #[.tmp 70, .tmp 76], #[23, 3]⟩, some (69, false)⟩, ⟨some 78, .unOp .not 4 (.tmp 77), some (69, false)⟩, ⟨some 79, .pick (.tmp 69) (.const (.bool true))
 (.tmp 78), none⟩] ⟨60, 78, []⟩ []) (.cond (.tmp 79) (.seq (.reg [⟨some 4, .assign (.const (.bool false)), none⟩] ⟨1, 0, []⟩ []) .ret) .skip))) (.reg [⟨some 58, .move (.tmp 8), none⟩, ⟨some 59, .binOp
 .add 3 (.tmp 58) (.const (.int .i64 1)) 3, none⟩, ⟨some 8, .assign (.tmp 59), none⟩] ⟨58, 59, []⟩ [])))))) (.seq (.reg [⟨some 80, .fieldAddr 69 (.tmp 3) 0, none⟩, ⟨some 81, .load 67 (.tmp 80), none⟩,
 ⟨some 82, .call ⟨.builtin .len, #[.tmp 81], #[67]⟩, none⟩, ⟨some 83, .binOp .leq 3 (.tmp 82) (.const (.int .i64 20)) 3, none⟩, ⟨some 84, .move (.tmp 83), none⟩, ⟨some 85, .fieldAddr 69 (.tmp 3) 1, some
 (84, true)⟩, ⟨some 86, .load 38 (.tmp 85), some (84, true)⟩, ⟨some 87, .call ⟨.builtin .len, #[.tmp 86], #[38]⟩, some (84, true)⟩, ⟨some 88, .binOp .leq 3 (.tmp 87) (.const (.int .i64 20)) 3, some (84,
 true)⟩, ⟨some 89, .pick (.tmp 84) (.tmp 88) (.const (.bool false)), none⟩, ⟨some 4, .assign (.tmp 89), none⟩] ⟨80, 89, []⟩ []) .ret))))
theorem z118 : FnF Tryz.prog Tryz.f118 90 c118 [.tmp 4] := ⟨by kernel_rfl, by kernel_rfl, by kernel_rfl, by kernel_rfl, by decide⟩
def c121 : AC :=
 .seq (.reg [⟨some 2, .assign (.const (.bool false)), none⟩] ⟨1, 0, []⟩ []) (.seq (.seq (.reg [⟨some 4, .move (.tmp 0), none⟩, ⟨some 5, .binOp .eql 9 (.tmp 4) (.const (.string ⟨#[]⟩)) 9, none⟩, ⟨some 6,
 .move (.tmp 5), none⟩, ⟨some 7, .move (.tmp 0), some (6, false)⟩, ⟨some 8, .call ⟨.builtin .len, #[.tmp 7], #[9]⟩, some (6, false)⟩, ⟨some 9, .binOp .gtr 3 (.tmp 8) (.const (.int .i64 16)) 3, some (6,
 false)⟩, ⟨some 10, .pick (.tmp 6) (.const (.bool true)) (.tmp 9), none⟩, ⟨some 11, .move (.tmp 10), none⟩, ⟨some 12, .move (.tmp 0), some (11, false)⟩, ⟨some 13, .index 9 (.tmp 12) (.const (.int .i64
 0)), some (11, false)⟩, ⟨some 14, .call ⟨.value (.func 131), #[.tmp 13], #[5]⟩, some (11, false)⟩, ⟨some 15, .unOp .not 4 (.tmp 14), some (11, false)⟩, ⟨some 16, .pick (.tmp 11) (.const (.bool true))
 (.tmp 15), none⟩] ⟨4, 15, []⟩ []) (.cond (.tmp 16) (.seq (.reg [⟨some 2, .assign (.const (.bool false)), none⟩] ⟨1, 0, []⟩ []) .ret) .skip)) (.seq (.seq (.reg [⟨some 17, .move (.tmp 0), none⟩, ⟨some
 18, .call ⟨.builtin .len, #[.tmp 17], #[9]⟩, none⟩, ⟨some 19, .move (.const (.int .i64 0)), none⟩] ⟨17, 17, []⟩ []) (.block 0 (.loop (.seq (.reg [⟨some 20, .binOp .lss 3 (.tmp 19) (.tmp 18) 3, none⟩]
 ⟨1, 0, []⟩ []) (.seq (.cond (.tmp 20) .skip (.exit 0)) (.seq (.block 1 (.seq (.reg [⟨some 21, .move (.tmp 19), none⟩, ⟨some 3, .assign (.tmp 21), none⟩] ⟨21, 21, []⟩ []) (.seq (.reg [⟨some 22, .move
 (.tmp 0), none⟩, ⟨some 23, .move (.tmp 3), none⟩, ⟨some 24, .index 9 (.tmp 22) (.tmp 23), none⟩, ⟨some 25, .call ⟨.value (.func 132), #[.tmp 24], #[5]⟩, none⟩, ⟨some 26, .unOp .not 4 (.tmp 25), none⟩]
 ⟨22, 25, []⟩ []) (.cond (.tmp 26) (.seq (.reg [⟨some 2, .assign (.const (.bool false)), none⟩] ⟨1, 0, []⟩ []) .ret) .skip)))) (.reg [⟨some 27, .binOp .add 3 (.tmp 19) (.const (.int .i64 1)) 3, none⟩,
 ⟨some 19, .move (.tmp 27), none⟩] ⟨27, 27, []⟩ []))))))) (.seq (.reg [⟨some 2, .assign (.const (.bool true)), none⟩] ⟨1, 0, []⟩ []) .ret)))
theorem z121 : FnF Tryz.prog Tryz.f121 28 c121 [.tmp 2] := ⟨by kernel_rfl, by kernel_rfl, by kernel_rfl, by kernel_rfl, by decide⟩
def c122 : AC :=
 .seq (.reg [⟨some 4, .assign (.const (.int .i64 0)), none⟩] ⟨1, 0, []⟩ []) (.seq (.seq (.reg [⟨some 6, .move (.tmp 0), none⟩, ⟨some 7, .call ⟨.builtin .len, #[.tmp 6], #[22]⟩, none⟩, ⟨some 8, .move
 (.const (.int .i64 0)), none⟩] ⟨6, 6, []⟩ []) (.block 0 (.loop (.seq (.reg [⟨some 9, .binOp .lss 3 (.tmp 8) (.tmp 7) 3, none⟩] ⟨1, 0, []⟩ []) (.seq (.cond (.tmp 9) .skip (.exit 0)) (.seq (.block 1
 (.seq (.reg [⟨some 10, .move (.tmp 8), none⟩, ⟨some 5, .assign (.tmp 10), none⟩] ⟨10, 10, []⟩ []) (.seq (.reg [⟨some 11, .move (.tmp 1), none⟩, ⟨some 12, .move (.tmp 0), none⟩, ⟨some 13, .move (.tmp
 5), none⟩, ⟨some 14, .indexAddr 22 (.tmp 12) (.tmp 13), none⟩, ⟨some 15, .load 9 (.tmp 14), none⟩, ⟨some 16, .binOp .eql 9 (.tmp 11) (.tmp 15) 9, none⟩] ⟨11, 15, []⟩ []) (.cond (.tmp 16) (.seq (.reg
 [⟨some 17, .move (.tmp 5), none⟩, ⟨some 4, .assign (.tmp 17), none⟩] ⟨17, 17, []⟩ []) .ret) .skip)))) (.reg [⟨some 18, .binOp .add 3 (.tmp 8) (.const (.int .i64 1)) 3, none⟩, ⟨some 8, .move (.tmp 18),
 none⟩] ⟨18, 18, []⟩ []))))))) (.seq (.reg [⟨some 4, .assign (.const (.int .i64 (-1))), none⟩] ⟨1, 0, []⟩ []) .ret))
theorem z122 : FnF Tryz.prog Tryz.f122 19 c122 [.tmp 4] := ⟨by kernel_rfl, by kernel_rfl, by kernel_rfl, by kernel_rfl, by decide⟩
def c123 : AC :=
 .seq (.reg [⟨some 2, .assign (.const (.bool false)), none⟩] ⟨1, 0, []⟩ []) (.seq (.seq (.reg [⟨some 9, .move (.tmp 0), none⟩, ⟨some 10, .call ⟨.builtin .len, #[.tmp 9], #[23]⟩, none⟩, ⟨some 11, .binOp
 .gtr 3 (.tmp 10) (.const (.int .i64 40)) 3, none⟩] ⟨9, 10, []⟩ []) (.cond (.tmp 11) (.seq (.reg [⟨some 2, .assign (.const (.bool false)), none⟩] ⟨1, 0, []⟩ []) .ret) .skip)) (.seq (.reg [⟨some 12,
 .move (.tmp 0), none⟩, ⟨some 13, .call ⟨.value (.func 133), #[.tmp 12], #[23]⟩, none⟩, ⟨some 3, .assign (.tmp 13), none⟩] ⟨12, 13, []⟩ []) (.seq (.seq (.reg [⟨some 14, .move (.tmp 3), none⟩, ⟨some 15,
 .call ⟨.builtin .len, #[.tmp 14], #[66]⟩, none⟩, ⟨some 16, .binOp .gtr 3 (.tmp 15) (.const (.int .i64 24)) 3, none⟩] ⟨14, 15, []⟩ []) (.cond (.tmp 16) (.seq (.reg [⟨some 2, .assign (.const (.bool
 false)), none⟩] ⟨1, 0, []⟩ []) .ret) .skip)) (.seq (.reg [⟨some 4, .assign (.const (.int .i64 0)), none⟩] ⟨1, 0, []⟩ []) (.seq (.seq (.reg [⟨some 17, .move (.tmp 0), none⟩, ⟨some 18, .call ⟨.builtin
 .len, #[.tmp 17], #[23]⟩, none⟩, ⟨some 19, .move (.const (.int .i64 0)), none⟩] ⟨1, 0, []⟩ []) (.block 0 (.loop (.seq (.reg [⟨some 20, .binOp .lss 3 (.tmp 19) (.tmp 18) 3, none⟩] ⟨1, 0, []⟩ []) (.seq
 (.cond (.tmp 20) .skip (.exit 0)) (.seq (.block 1 (.seq (.reg [⟨some 21, .move (.tmp 19), none⟩, ⟨some 22, .indexAddr 23 (.tmp 17) (.tmp 19), none⟩, ⟨some 23, .load 71 (.tmp 22), none⟩, ⟨some 6, .alloc
 71, none⟩, ⟨some 5, .assign (.tmp 21), none⟩, ⟨none, .store 71 (.tmp 6) (.tmp 23), none⟩] ⟨21, 23, []⟩ []) (.seq (.seq (.reg [⟨some 24, .fieldAddr 71 (.tmp 6) 0, none⟩, ⟨some 25, .load 9 (.tmp 24),
 none⟩, ⟨some 26, .call ⟨.value (.func 134), #[.tmp 25], #[9]⟩, none⟩, ⟨some 27, .unOp .not 4 (.tmp 26), none⟩, ⟨some 28, .move (.tmp 27), none⟩, ⟨some 29, .fieldAddr 71 (.tmp 6) 1, some (28, false)⟩,
 ⟨some 30, .load 66 (.tmp 29), some (28, false)⟩, ⟨some 31, .call ⟨.builtin .len, #[.tmp 30], #[66]⟩, some (28, false)⟩, ⟨some 32, .binOp .gtr 3 (.tmp 31) (.const (.int .i64 4)) 3, some (28, false)⟩,
 ⟨some 33, .pick (.tmp 28) (.const (.bool true)) (.tmp 32), none⟩, ⟨some 34, .move (.tmp 33), none⟩, ⟨some 35, .fieldAddr 71 (.tmp 6) 2, some (34, false)⟩, ⟨some 36, .load 3 (.tmp 35), some (34,
 false)⟩, ⟨some 37, .move (.tmp 4), some (34, false)⟩, ⟨some 38, .binOp .neq 3 (.tmp 36) (.tmp 37) 3, some (34, false)⟩, ⟨some 39, .pick (.tmp 34) (.const (.bool true)) (.tmp 38), none⟩, ⟨some 40, .move
 (.tmp 39), none⟩, ⟨some 41, .move (.tmp 0), some (40, false)⟩, ⟨some 42, .move (.tmp 5), some (40, false)⟩, ⟨some 43, .slice 23 (.tmp 41) none (some (.tmp 42)) none, some (40, false)⟩, ⟨some 44,
 .makeFunc (.func 136) #[] #[.tmp 6], some (40, false)⟩, ⟨some 45, .call ⟨.value (.func 135), #[.tmp 43, .tmp 44], #[23, 131]⟩, some (40, false)⟩, ⟨some 46, .pick (.tmp 40) (.const (.bool true)) (.tmp
 45), none⟩] ⟨24, 45, []⟩ []) (.cond (.tmp 46) (.seq (.reg [⟨some 2, .assign (.const (.bool false)), none⟩] ⟨1, 0, []⟩ []) .ret) .skip)) (.seq (.reg [⟨some 47, .move (.tmp 4), none⟩, ⟨some 48,
 .fieldAddr 71 (.tmp 6) 1, none⟩, ⟨some 49, .load 66 (.tmp 48), none⟩, ⟨some 50, .call ⟨.builtin .len, #[.tmp 49], #[66]⟩, none⟩, ⟨some 51, .binOp .add 3 (.tmp 47) (.tmp 50) 3, none⟩, ⟨some 4, .assign
 (.tmp 51), none⟩] ⟨47, 51, []⟩ []) (.seq (.seq (.reg [⟨some 52, .fieldAddr 71 (.tmp 6) 1, none⟩, ⟨some 53, .load 66 (.tmp 52), none⟩, ⟨some 54, .call ⟨.builtin .len, #[.tmp 53], #[66]⟩, none⟩, ⟨some
 55, .move (.const (.int .i64 0)), none⟩] ⟨52, 52, []⟩ []) (.block 2 (.loop (.seq (.reg [⟨some 56, .binOp .lss 3 (.tmp 55) (.tmp 54) 3, none⟩] ⟨1, 0, []⟩ []) (.seq (.cond (.tmp 56) .skip (.exit 2))
 (.seq (.block 3 (.seq (.reg [⟨some 57, .move (.tmp 55), none⟩, ⟨some 58, .indexAddr 66 (.tmp 53) (.tmp 55), none⟩, ⟨some 59, .load 123 (.tmp 58), none⟩, ⟨some 8, .alloc 123, none⟩, ⟨some 7, .assign
 (.tmp 57), none⟩, ⟨none, .store 123 (.tmp 8) (.tmp 59), none⟩] ⟨57, 59, []⟩ []) (.seq (.reg [⟨some 60, .fieldAddr 123 (.tmp 8) 0, none⟩, ⟨some 61, .load 9 (.tmp 60), none⟩, ⟨some 62, .call ⟨.value
 (.func 105), #[.tmp 61], #[9]⟩, none⟩, ⟨some 63, .unOp .not 4 (.tmp 62), none⟩, ⟨some 64, .move (.tmp 63), none⟩, ⟨some 65, .fieldAddr 123 (.tmp 8) 1, some (64, false)⟩, ⟨some 66, .load 121 (.tmp 65),
 some (64, false)⟩, ⟨some 67, .call ⟨.value (.func 137), #[.tmp 66], #[121]⟩, some (64, false)⟩, ⟨some 68, .unOp .not 4 (.tmp 67), some (64, false)⟩, ⟨some 69, .pick (.tmp 64) (.const (.bool true))
 (.tmp 68), none⟩, ⟨some 70, .move (.tmp 69), none⟩, ⟨some 71, .fieldAddr 71 (.tmp 6) 1, some (70, false)⟩, ⟨some 72, .load 66 (.tmp 71), some (70, false)⟩, ⟨some 73, .move (.tmp 7), some (70, false)⟩,
 ⟨some 74, .slice 66 (.tmp 72) none (some (.tmp 73)) none, some (70, false)⟩, ⟨some 75, .makeFunc (.func 139) #[] #[.tmp 8], some (70, false)⟩, ⟨some 76, .call ⟨.value (.func 138), #[.tmp 74, .tmp 75],
 #[66, 172]⟩, some (70, false)⟩, ⟨some 77, .pick (.tmp 70) (.const (.bool true)) (.tmp 76), none⟩] ⟨60, 76, []⟩ []) (.cond (.tmp 77) (.seq (.reg [⟨some 2, .assign (.const (.bool false)), none⟩] ⟨1, 0,
 []⟩ []) .ret) .skip)))) (.reg [⟨some 78, .binOp .add 3 (.tmp 55) (.const (.int .i64 1)) 3, none⟩, ⟨some 55, .move (.tmp 78), none⟩] ⟨78, 78, []⟩ []))))))) (.seq (.reg [⟨some 79, .fieldAddr 71 (.tmp 6)
 3, none⟩, ⟨some 80, .load 69 (.tmp 79), none⟩, ⟨some 81, .move (.tmp 3), none⟩, ⟨some 82, .call ⟨.value (.func 140), #[.tmp 80, .tmp 81], #[69, 66]⟩, none⟩, ⟨some 83, .unOp .not 4 (.tmp 82), none⟩]
 ⟨79, 82, []⟩ []) (.cond (.tmp 83) (.seq (.reg [⟨some 2, .assign (.const (.bool false)), none⟩] ⟨1, 0, []⟩ []) .ret) .skip))))))) (.reg [⟨some 84, .binOp .add 3 (.tmp 19) (.const (.int .i64 1)) 3,
 none⟩, ⟨some 19, .move (.tmp 84), none⟩] ⟨84, 84, []⟩ []))))))) (.seq (.reg [⟨some 2, .assign (.const (.bool true)), none⟩] ⟨1, 0, []⟩ []) .ret))))))
theorem z123 : FnF Tryz.prog Tryz.f123 85 c123 [.tmp 2] := ⟨by kernel_rfl, by kernel_rfl, by kernel_rfl, by kernel_rfl, by decide⟩
def c124 : AC :=
 .seq (.reg [⟨some 1, .box 71 (.tmp 0), none⟩, ⟨some 2, .assign (.const (.slice none 0 0)), none⟩] ⟨1, 0, []⟩ []) (.seq (.reg [⟨some 3, .assign (.const (.slice none 0 0)), none⟩] ⟨1, 0, []⟩ []) (.seq
 (.seq (.reg [⟨some 8, .fieldAddr 71 (.tmp 1) 1, none⟩, ⟨some 9, .load 66 (.tmp 8), none⟩, ⟨some 10, .call ⟨.builtin .len, #[.tmp 9], #[66]⟩, none⟩, ⟨some 11, .move (.const (.int .i64 0)), none⟩] ⟨8, 8,
 []⟩ []) (.block 0 (.loop (.seq (.reg [⟨some 12, .binOp .lss 3 (.tmp 11) (.tmp 10) 3, none⟩] ⟨1, 0, []⟩ []) (.seq (.cond (.tmp 12) .skip (.exit 0)) (.seq (.block 1 (.seq (.reg [⟨some 13, .move (.tmp
 11), none⟩, ⟨some 14, .indexAddr 66 (.tmp 9) (.tmp 11), none⟩, ⟨some 15, .load 123 (.tmp 14), none⟩, ⟨some 5, .alloc 123, none⟩, ⟨some 4, .assign (.tmp 13), none⟩, ⟨none, .store 123 (.tmp 5) (.tmp 15),
 none⟩] ⟨13, 15, []⟩ []) (.reg [⟨some 16, .move (.tmp 3), none⟩, ⟨some 17, .fieldAddr 71 (.tmp 1) 2, none⟩, ⟨some 18, .load 3 (.tmp 17), none⟩, ⟨some 19, .move (.tmp 4), none⟩, ⟨some 20, .binOp .add 3
 (.tmp 18) (.tmp 19) 3, none⟩, ⟨some 21, .fieldAddr 123 (.tmp 5) 1, none⟩, ⟨some 22, .fieldAddr 121 (.tmp 21) 2, none⟩, ⟨some 23, .load 3 (.tmp 22), none⟩, ⟨some 24, .build 126 #[(0, .tmp 20), (1,
 .const (.int .i64 (-1))), (2, .tmp 23)], none⟩, ⟨some 25, .fieldAddr 71 (.tmp 1) 2, none⟩, ⟨some 26, .load 3 (.tmp 25), none⟩, ⟨some 27, .move (.tmp 4), none⟩, ⟨some 28, .binOp .add 3 (.tmp 26) (.tmp
 27) 3, none⟩, ⟨some 29, .fieldAddr 123 (.tmp 5) 1, none⟩, ⟨some 30, .fieldAddr 121 (.tmp 29) 1, none⟩, ⟨some 31, .load 3 (.tmp 30), none⟩, ⟨some 32, .unOp .neg 3 (.tmp 31), none⟩, ⟨some 33, .build 126
 #[(0, .const (.int .i64 (-1))), (1, .tmp 28), (2, .tmp 32)], none⟩, ⟨some 34, .buildSlice 67 2 #[(0, .tmp 24), (1, .tmp 33)], none⟩, ⟨some 35, .call ⟨.builtin .append, #[.tmp 16, .tmp 34], #[67, 67]⟩,
 none⟩, ⟨some 3, .assign (.tmp 35), none⟩] ⟨16, 35, []⟩ []))) (.reg [⟨some 36, .binOp .add 3 (.tmp 11) (.const (.int .i64 1)) 3, none⟩, ⟨some 11, .move (.tmp 36), none⟩] ⟨36, 36, []⟩ []))))))) (.seq
 (.reg [⟨some 37, .move (.tmp 3), none⟩, ⟨some 38, .fieldAddr 71 (.tmp 1) 3, none⟩, ⟨some 39, .fieldAddr 69 (.tmp 38) 0, none⟩, ⟨some 40, .load 67 (.tmp 39), none⟩, ⟨some 41, .call ⟨.builtin .append,
 #[.tmp 37, .tmp 40], #[67, 67]⟩, none⟩, ⟨some 3, .assign (.tmp 41), none⟩] ⟨37, 41, []⟩ []) (.seq (.seq (.reg [⟨some 42, .fieldAddr 71 (.tmp 1) 3, none⟩, ⟨some 43, .fieldAddr 69 (.tmp 42) 1, none⟩,
 ⟨some 44, .load 38 (.tmp 43), none⟩, ⟨some 45, .call ⟨.builtin .len, #[.tmp 44], #[38]⟩, none⟩, ⟨some 46, .move (.const (.int .i64 0)), none⟩] ⟨42, 43, []⟩ []) (.block 2 (.loop (.seq (.reg [⟨some 47,
 .binOp .lss 3 (.tmp 46) (.tmp 45) 3, none⟩] ⟨1, 0, []⟩ []) (.seq (.cond (.tmp 47) .skip (.exit 2)) (.seq (.block 3 (.seq (.reg [⟨some 48, .indexAddr 38 (.tmp 44) (.tmp 46), none⟩, ⟨some 49, .load 61
 (.tmp 48), none⟩, ⟨some 7, .alloc 61, none⟩, ⟨none, .store 61 (.tmp 7) (.tmp 49), none⟩] ⟨48, 49, []⟩ []) (.reg [⟨some 50, .move (.tmp 3), none⟩, ⟨some 51, .indexAddr 61 (.tmp 7) (.const (.int .i64
 0)), none⟩, ⟨some 52, .load 3 (.tmp 51), none⟩, ⟨some 53, .indexAddr 61 (.tmp 7) (.const (.int .i64 1)), none⟩, ⟨some 54, .load 3 (.tmp 53), none⟩, ⟨some 55, .build 126 #[(0, .tmp 52), (1, .tmp 54)],
 none⟩, ⟨some 56, .indexAddr 61 (.tmp 7) (.const (.int .i64 1)), none⟩, ⟨some 57, .load 3 (.tmp 56), none⟩, ⟨some 58, .indexAddr 61 (.tmp 7) (.const (.int .i64 0)), none⟩, ⟨some 59, .load 3 (.tmp 58),
 none⟩, ⟨some 60, .build 126 #[(0, .tmp 57), (1, .tmp 59)], none⟩, ⟨some 61, .buildSlice 67 2 #[(0, .tmp 55), (1, .tmp 60)], none⟩, ⟨some 62, .call ⟨.builtin .append, #[.tmp 50, .tmp 61], #[67, 67]⟩,
 none⟩, ⟨some 3, .assign (.tmp 62), none⟩] ⟨50, 62, []⟩ []))) (.reg [⟨some 63, .binOp .add 3 (.tmp 46) (.const (.int .i64 1)) 3, none⟩, ⟨some 46, .move (.tmp 63), none⟩] ⟨63, 63, []⟩ []))))))) (.seq
 (.reg [⟨some 64, .move (.tmp 3), none⟩, ⟨some 2, .assign (.tmp 64), none⟩] ⟨64, 64, []⟩ []) .ret)))))
theorem z124 : FnF Tryz.prog Tryz.f124 65 c124 [.tmp 2] := ⟨by kernel_rfl, by kernel_rfl, by kernel_rfl, by kernel_rfl, by decide⟩
def c125 : AC :=
 .seq (.reg [⟨some 4, .assign (.const (.int .u64 0)), none⟩, ⟨some 5, .assign (.const (.int .u64 0)), none⟩] ⟨1, 0, []⟩ []) (.seq (.cond (.const (.bool false)) (.seq (.reg [⟨some 11, .move (.tmp 0),
 none⟩, ⟨some 12, .convert 164 174 (.tmp 11), none⟩, ⟨some 13, .move (.tmp 1), none⟩, ⟨some 14, .convert 164 174 (.tmp 13), none⟩, ⟨some 15, .call ⟨.value (.func 141), #[.tmp 12, .tmp 14], #[174, 174]⟩,
 none⟩, ⟨some 10, .move (.tmp 15), none⟩, ⟨some 16, .extract (.tmp 10) 0, none⟩, ⟨some 17, .extract (.tmp 10) 1, none⟩, ⟨some 6, .assign (.tmp 16), none⟩, ⟨some 7, .assign (.tmp 17), none⟩] ⟨10, 17, []⟩
 []) (.seq (.reg [⟨some 18, .move (.tmp 6), none⟩, ⟨some 19, .convert 174 164 (.tmp 18), none⟩, ⟨some 20, .move (.tmp 7), none⟩, ⟨some 21, .convert 174 164 (.tmp 20), none⟩, ⟨some 4, .assign (.tmp 19),
 none⟩, ⟨some 5, .assign (.tmp 21), none⟩] ⟨18, 21, []⟩ []) .ret)) .skip) (.seq (.reg [⟨some 23, .move (.tmp 0), none⟩, ⟨some 24, .move (.tmp 1), none⟩, ⟨some 25, .call ⟨.value (.func 142), #[.tmp 23,
 .tmp 24], #[177, 177]⟩, none⟩, ⟨some 22, .move (.tmp 25), none⟩, ⟨some 26, .extract (.tmp 22) 0, none⟩, ⟨some 27, .extract (.tmp 22) 1, none⟩, ⟨some 8, .assign (.tmp 26), none⟩, ⟨some 9, .assign (.tmp
 27), none⟩] ⟨22, 27, []⟩ []) (.seq (.reg [⟨some 28, .move (.tmp 8), none⟩, ⟨some 29, .move (.tmp 9), none⟩, ⟨some 4, .assign (.tmp 28), none⟩, ⟨some 5, .assign (.tmp 29), none⟩] ⟨28, 29, []⟩ [])
 .ret)))
theorem z125 : FnF Tryz.prog Tryz.f125 30 c125 [.tmp 4, .tmp 5] := ⟨by kernel_rfl, by kernel_rfl, by kernel_rfl, by kernel_rfl, by decide⟩
def c126 : AC :=
 .seq (.reg [⟨some 2, .assign (.const (.bool false)), none⟩] ⟨1, 0, []⟩ []) (.seq (.reg [⟨some 3, .move (.tmp 0), none⟩, ⟨some 4, .binOp .geq 5 (.tmp 3) (.const (.int .u8 97)) 5, none⟩, ⟨some 5, .move
 (.tmp 4), none⟩, ⟨some 6, .move (.tmp 0), some (5, true)⟩, ⟨some 7, .binOp .leq 5 (.tmp 6) (.const (.int .u8 122)) 5, some (5, true)⟩, ⟨some 8, .pick (.tmp 5) (.tmp 7) (.const (.bool false)), none⟩,
 ⟨some 9, .move (.tmp 8), none⟩, ⟨some 10, .move (.tmp 0), some (9, false)⟩, ⟨some 11, .binOp .geq 5 (.tmp 10) (.const (.int .u8 65)) 5, some (9, false)⟩, ⟨some 12, .move (.tmp 11), some (9, false)⟩,
 ⟨some 13, .move (.tmp 0), some (12, true)⟩, ⟨some 14, .binOp .leq 5 (.tmp 13) (.const (.int .u8 90)) 5, some (12, true)⟩, ⟨some 15, .pick (.tmp 12) (.tmp 14) (.const (.bool false)), some (9, false)⟩,
 ⟨some 16, .pick (.tmp 9) (.const (.bool true)) (.tmp 15), none⟩, ⟨some 2, .assign (.tmp 16), none⟩] ⟨3, 16, []⟩ []) .ret)
theorem z126 : FnF Tryz.prog Tryz.f126 17 c126 [.tmp 2] := ⟨by kernel_rfl, by kernel_rfl, by kernel_rfl, by kernel_rfl, by decide⟩
def c127 : AC :=
 .seq (.reg [⟨some 2, .assign (.const (.bool false)), none⟩] ⟨1, 0, []⟩ []) (.seq (.reg [⟨some 3, .move (.tmp 0), none⟩, ⟨some 4, .call ⟨.value (.func 126), #[.tmp 3], #[5]⟩, none⟩, ⟨some 5, .move (.tmp
 4), none⟩, ⟨some 6, .move (.tmp 0), some (5, false)⟩, ⟨some 7, .call ⟨.value (.func 143), #[.tmp 6], #[5]⟩, some (5, false)⟩, ⟨some 8, .pick (.tmp 5) (.const (.bool true)) (.tmp 7), none⟩, ⟨some 9,
 .move (.tmp 8), none⟩, ⟨some 10, .move (.tmp 0), some (9, false)⟩, ⟨some 11, .binOp .eql 5 (.tmp 10) (.const (.int .u8 95)) 5, some (9, false)⟩, ⟨some 12, .pick (.tmp 9) (.const (.bool true)) (.tmp
 11), none⟩, ⟨some 2, .assign (.tmp 12), none⟩] ⟨3, 12, []⟩ []) .ret)
theorem z127 : FnF Tryz.prog Tryz.f127 13 c127 [.tmp 2] := ⟨by kernel_rfl, by kernel_rfl, by kernel_rfl, by kernel_rfl, by decide⟩
def c128 : AC :=
 .seq (.reg [⟨some 2, .assign (.const (.bool false)), none⟩] ⟨1, 0, []⟩ []) (.seq (.reg [⟨some 3, .move (.tmp 0), none⟩, ⟨some 4, .call ⟨.value (.func 98), #[.tmp 3], #[9]⟩, none⟩, ⟨some 2, .assign
 (.tmp 4), none⟩] ⟨3, 4, []⟩ []) .ret)
theorem z128 : FnF Tryz.prog Tryz.f128 5 c128 [.tmp 2] := ⟨by kernel_rfl, by kernel_rfl, by kernel_rfl, by kernel_rfl, by decide⟩
def c129 : AC :=
 .seq (.reg [⟨some 4, .assign (.const (.bool false)), none⟩] ⟨1, 0, []⟩ []) (.seq (.reg [⟨some 5, .move (.tmp 1), none⟩, ⟨some 6, .binOp .geq 3 (.tmp 5) (.const (.int .i64 0)) 3, none⟩, ⟨some 7, .move
 (.tmp 6), none⟩, ⟨some 8, .move (.tmp 1), some (7, true)⟩, ⟨some 9, .move (.tmp 0), some (7, true)⟩, ⟨some 10, .call ⟨.value (.func 41), #[.tmp 9], #[23]⟩, some (7, true)⟩, ⟨some 11, .binOp .lss 3
 (.tmp 8) (.tmp 10) 3, some (7, true)⟩, ⟨some 12, .pick (.tmp 7) (.tmp 11) (.const (.bool false)), none⟩, ⟨some 13, .move (.tmp 12), none⟩, ⟨some 14, .move (.tmp 0), some (13, true)⟩, ⟨some 15, .move
 (.tmp 1), some (13, true)⟩, ⟨some 16, .call ⟨.value (.func 144), #[.tmp 14, .tmp 15], #[23, 3]⟩, some (13, true)⟩, ⟨some 17, .field 123 (.tmp 16) 1, some (13, true)⟩, ⟨some 18, .field 121 (.tmp 17) 0,
 some (13, true)⟩, ⟨some 19, .binOp .eql 3 (.tmp 18) (.const (.int .i64 2)) 3, some (13, true)⟩, ⟨some 20, .pick (.tmp 13) (.tmp 19) (.const (.bool false)), none⟩, ⟨some 4, .assign (.tmp 20), none⟩] ⟨5,
 20, []⟩ []) .ret)
theorem z129 : FnF Tryz.prog Tryz.f129 21 c129 [.tmp 4] := ⟨by kernel_rfl, by kernel_rfl, by kernel_rfl, by kernel_rfl, by decide⟩
def c131 : AC :=
 .seq (.reg [⟨some 2, .assign (.const (.bool false)), none⟩] ⟨1, 0, []⟩ []) (.seq (.reg [⟨some 3, .move (.tmp 0), none⟩, ⟨some 4, .binOp .leq 5 (.const (.int .u8 97)) (.tmp 3) 5, none⟩, ⟨some 5, .move
 (.tmp 4), none⟩, ⟨some 6, .move (.tmp 0), some (5, true)⟩, ⟨some 7, .binOp .leq 5 (.tmp 6) (.const (.int .u8 122)) 5, some (5, true)⟩, ⟨some 8, .pick (.tmp 5) (.tmp 7) (.const (.bool false)), none⟩,
 ⟨some 9, .move (.tmp 8), none⟩, ⟨some 10, .move (.tmp 0), some (9, false)⟩, ⟨some 11, .binOp .leq 5 (.const (.int .u8 65)) (.tmp 10) 5, some (9, false)⟩, ⟨some 12, .move (.tmp 11), some (9, false)⟩,
 ⟨some 13, .move (.tmp 0), some (12, true)⟩, ⟨some 14, .binOp .leq 5 (.tmp 13) (.const (.int .u8 90)) 5, some (12, true)⟩, ⟨some 15, .pick (.tmp 12) (.tmp 14) (.const (.bool false)), some (9, false)⟩,
 ⟨some 16, .pick (.tmp 9) (.const (.bool true)) (.tmp 15), none⟩, ⟨some 2, .assign (.tmp 16), none⟩] ⟨3, 16, []⟩ []) .ret)
theorem z131 : FnF Tryz.prog Tryz.f131 17 c131 [.tmp 2] := ⟨by kernel_rfl, by kernel_rfl, by kernel_rfl, by kernel_rfl, by decide⟩
def c132 : AC :=
 .seq (.reg [⟨some 2, .assign (.const (.bool false)), none⟩] ⟨1, 0, []⟩ []) (.seq (.reg [⟨some 3, .move (.tmp 0), none⟩, ⟨some 4, .call ⟨.value (.func 131), #[.tmp 3], #[5]⟩, none⟩, ⟨some 5, .move (.tmp
 4), none⟩, ⟨some 6, .move (.tmp 0), some (5, false)⟩, ⟨some 7, .call ⟨.value (.func 146), #[.tmp 6], #[5]⟩, some (5, false)⟩, ⟨some 8, .pick (.tmp 5) (.const (.bool true)) (.tmp 7), none⟩, ⟨some 9,
 .move (.tmp 8), none⟩, ⟨some 10, .move (.tmp 0), some (9, false)⟩, ⟨some 11, .binOp .eql 5 (.tmp 10) (.const (.int .u8 95)) 5, some (9, false)⟩, ⟨some 12, .pick (.tmp 9) (.const (.bool true)) (.tmp
 11), none⟩, ⟨some 2, .assign (.tmp 12), none⟩] ⟨3, 12, []⟩ []) .ret)
theorem z132 : FnF Tryz.prog Tryz.f132 13 c132 [.tmp 2] := ⟨by kernel_rfl, by kernel_rfl, by kernel_rfl, by kernel_rfl, by decide⟩
def c133 : AC :=
 .seq (.reg [⟨some 2, .assign (.const (.slice none 0 0)), none⟩] ⟨1, 0, []⟩ []) (.seq (.reg [⟨some 3, .assign (.const (.slice none 0 0)), none⟩] ⟨1, 0, []⟩ []) (.seq (.seq (.reg [⟨some 6, .move (.tmp
 0), none⟩, ⟨some 7, .call ⟨.builtin .len, #[.tmp 6], #[23]⟩, none⟩, ⟨some 8, .move (.const (.int .i64 0)), none⟩] ⟨1, 0, []⟩ []) (.block 0 (.loop (.seq (.reg [⟨some 9, .binOp .lss 3 (.tmp 8) (.tmp 7)
 3, none⟩] ⟨1, 0, []⟩ []) (.seq (.cond (.tmp 9) .skip (.exit 0)) (.seq (.block 1 (.seq (.reg [⟨some 10, .indexAddr 23 (.tmp 6) (.tmp 8), none⟩, ⟨some 11, .load 71 (.tmp 10), none⟩, ⟨some 5, .alloc 71,
 none⟩, ⟨none, .store 71 (.tmp 5) (.tmp 11), none⟩] ⟨10, 11, []⟩ []) (.reg [⟨some 12, .move (.tmp 3), none⟩, ⟨some 13, .fieldAddr 71 (.tmp 5) 1, none⟩, ⟨some 14, .load 66 (.tmp 13), none⟩, ⟨some 15,
 .call ⟨.builtin .append, #[.tmp 12, .tmp 14], #[66, 66]⟩, none⟩, ⟨some 3, .assign (.tmp 15), none⟩] ⟨12, 15, []⟩ []))) (.reg [⟨some 16, .binOp .add 3 (.tmp 8) (.const (.int .i64 1)) 3, none⟩, ⟨some 8,
 .move (.tmp 16), none⟩] ⟨16, 16, []⟩ []))))))) (.seq (.reg [⟨some 17, .move (.tmp 3), none⟩, ⟨some 2, .assign (.tmp 17), none⟩] ⟨17, 17, []⟩ []) .ret)))
theorem z133 : FnF Tryz.prog Tryz.f133 18 c133 [.tmp 2] := ⟨by kernel_rfl, by kernel_rfl, by kernel_rfl, by kernel_rfl, by decide⟩
def c134 : AC :=
 .seq (.reg [⟨some 2, .assign (.const (.bool false)), none⟩] ⟨1, 0, []⟩ []) (.seq (.reg [⟨some 3, .move (.tmp 0), none⟩, ⟨some 4, .call ⟨.builtin .len, #[.tmp 3], #[9]⟩, none⟩, ⟨some 5, .binOp .leq 3
 (.tmp 4) (.const (.int .i64 50)) 3, none⟩, ⟨some 6, .move (.tmp 5), none⟩, ⟨some 7, .move (.tmp 0), some (6, true)⟩, ⟨some 8, .call ⟨.value (.func 148), #[.tmp 7, .const (.string ⟨#[46]⟩)], #[9, 9]⟩,
 some (6, true)⟩, ⟨some 9, .call ⟨.value (.func 147), #[.tmp 8, .func 149], #[22, 142]⟩, some (6, true)⟩, ⟨some 10, .unOp .not 4 (.tmp 9), some (6, true)⟩, ⟨some 11, .pick (.tmp 6) (.tmp 10) (.const
 (.bool false)), none⟩, ⟨some 2, .assign (.tmp 11), none⟩] ⟨3, 11, []⟩ []) .ret)
theorem z134 : FnF Tryz.prog Tryz.f134 12 c134 [.tmp 2] := ⟨by kernel_rfl, by kernel_rfl, by kernel_rfl, by kernel_rfl, by decide⟩
def c135 : AC :=
 .seq (.reg [⟨some 4, .assign (.const (.bool false)), none⟩] ⟨1, 0, []⟩ []) (.seq (.reg [⟨some 5, .move (.tmp 0), none⟩, ⟨some 6, .move (.tmp 1), none⟩, ⟨some 7, .call ⟨.value (.func 86), #[.tmp 5, .tmp
 6], #[23, 131]⟩, none⟩, ⟨some 8, .binOp .geq 3 (.tmp 7) (.const (.int .i64 0)) 3, none⟩, ⟨some 4, .assign (.tmp 8), none⟩] ⟨5, 8, []⟩ []) .ret)
theorem z135 : FnF Tryz.prog Tryz.f135 9 c135 [.tmp 4] := ⟨by kernel_rfl, by kernel_rfl, by kernel_rfl, by kernel_rfl, by decide⟩
def c136 : AC :=
 .seq (.reg [⟨some 2, .box 71 (.tmp 0), none⟩, ⟨some 3, .assign (.const (.bool false)), none⟩] ⟨1, 0, []⟩ []) (.seq (.reg [⟨some 4, .fieldAddr 71 (.tmp 2) 0, none⟩, ⟨some 5, .load 9 (.tmp 4), none⟩,
 ⟨some 6, .fieldAddr 71 (.tmp 1) 0, none⟩, ⟨some 7, .load 9 (.tmp 6), none⟩, ⟨some 8, .binOp .eql 9 (.tmp 5) (.tmp 7) 9, none⟩, ⟨some 3, .assign (.tmp 8), none⟩] ⟨4, 8, []⟩ []) .ret)
theorem z136 : FnF Tryz.prog Tryz.f136 9 c136 [.tmp 3] := ⟨by kernel_rfl, by kernel_rfl, by kernel_rfl, by kernel_rfl, by decide⟩
def c137 : AC :=
 .seq (.reg [⟨some 1, .box 121 (.tmp 0), none⟩, ⟨some 2, .assign (.const (.bool false)), none⟩] ⟨1, 0, []⟩ []) (.seq (.seq (.reg [⟨some 3, .fieldAddr 121 (.tmp 1) 0, none⟩, ⟨some 4, .load 3 (.tmp 3),
 none⟩] ⟨3, 3, []⟩ []) (.block 0 (.seq (.reg [⟨some 6, .binOp .eql 3 (.tmp 4) (.const (.int .i64 1)) 3, none⟩, ⟨some 5, .assign (.tmp 6), none⟩] ⟨6, 6, []⟩ []) (.cond (.tmp 5) (.seq (.reg [⟨some 7,
 .fieldAddr 121 (.tmp 1) 1, none⟩, ⟨some 8, .load 3 (.tmp 7), none⟩, ⟨some 9, .binOp .geq 3 (.tmp 8) (.const (.int .i64 (-1000))) 3, none⟩, ⟨some 10, .move (.tmp 9), none⟩, ⟨some 11, .fieldAddr 121
 (.tmp 1) 1, some (10, true)⟩, ⟨some 12, .load 3 (.tmp 11), some (10, true)⟩, ⟨some 13, .fieldAddr 121 (.tmp 1) 2, some (10, true)⟩, ⟨some 14, .load 3 (.tmp 13), some (10, true)⟩, ⟨some 15, .binOp .leq
 3 (.tmp 12) (.tmp 14) 3, some (10, true)⟩, ⟨some 16, .pick (.tmp 10) (.tmp 15) (.const (.bool false)), none⟩, ⟨some 17, .move (.tmp 16), none⟩, ⟨some 18, .fieldAddr 121 (.tmp 1) 2, some (17, true)⟩,
 ⟨some 19, .load 3 (.tmp 18), some (17, true)⟩, ⟨some 20, .binOp .leq 3 (.tmp 19) (.const (.int .i64 1000)) 3, some (17, true)⟩, ⟨some 21, .pick (.tmp 17) (.tmp 20) (.const (.bool false)), none⟩, ⟨some
 2, .assign (.tmp 21), none⟩] ⟨7, 21, []⟩ []) .ret) (.seq (.reg [⟨some 23, .binOp .eql 3 (.tmp 4) (.const (.int .i64 2)) 3, none⟩, ⟨some 22, .assign (.tmp 23), none⟩] ⟨23, 23, []⟩ []) (.cond (.tmp 22)
 (.seq (.reg [⟨some 24, .fieldAddr 121 (.tmp 1) 1, none⟩, ⟨some 25, .load 3 (.tmp 24), none⟩, ⟨some 26, .binOp .geq 3 (.tmp 25) (.const (.int .i64 0)) 3, none⟩, ⟨some 27, .move (.tmp 26), none⟩, ⟨some
 28, .fieldAddr 121 (.tmp 1) 1, some (27, true)⟩, ⟨some 29, .load 3 (.tmp 28), some (27, true)⟩, ⟨some 30, .fieldAddr 121 (.tmp 1) 2, some (27, true)⟩, ⟨some 31, .load 3 (.tmp 30), some (27, true)⟩,
 ⟨some 32, .binOp .leq 3 (.tmp 29) (.tmp 31) 3, some (27, true)⟩, ⟨some 33, .pick (.tmp 27) (.tmp 32) (.const (.bool false)), none⟩, ⟨some 34, .move (.tmp 33), none⟩, ⟨some 35, .fieldAddr 121 (.tmp 1)
 2, some (34, true)⟩, ⟨some 36, .load 3 (.tmp 35), some (34, true)⟩, ⟨some 37, .binOp .leq 3 (.tmp 36) (.const (.int .i64 40)) 3, some (34, true)⟩, ⟨some 38, .pick (.tmp 34) (.tmp 37) (.const (.bool
 false)), none⟩, ⟨some 2, .assign (.tmp 38), none⟩] ⟨24, 38, []⟩ []) .ret) .skip)))))) (.seq (.reg [⟨some 2, .assign (.const (.bool false)), none⟩] ⟨1, 0, []⟩ []) .ret))
theorem z137 : FnF Tryz.prog Tryz.f137 39 c137 [.tmp 2] := ⟨by kernel_rfl, by kernel_rfl, by kernel_rfl, by kernel_rfl, by decide⟩
def c138 : AC :=
 .seq (.reg [⟨some 4, .assign (.const (.bool false)), none⟩] ⟨1, 0, []⟩ []) (.seq (.reg [⟨some 5, .move (.tmp 0), none⟩, ⟨some 6, .move (.tmp 1), none⟩, ⟨some 7, .call ⟨.value (.func 150), #[.tmp 5,
 .tmp 6], #[66, 172]⟩, none⟩, ⟨some 8, .binOp .geq 3 (.tmp 7) (.const (.int .i64 0)) 3, none⟩, ⟨some 4, .assign (.tmp 8), none⟩] ⟨5, 8, []⟩ []) .ret)
theorem z138 : FnF Tryz.prog Tryz.f138 9 c138 [.tmp 4] := ⟨by kernel_rfl, by kernel_rfl, by kernel_rfl, by kernel_rfl, by decide⟩
def c139 : AC :=
 .seq (.reg [⟨some 2, .box 123 (.tmp 0), none⟩, ⟨some 3, .assign (.const (.bool false)), none⟩] ⟨1, 0, []⟩ []) (.seq (.reg [⟨some 4, .fieldAddr 123 (.tmp 2) 0, none⟩, ⟨some 5, .load 9 (.tmp 4), none⟩,
 ⟨some 6, .fieldAddr 123 (.tmp 1) 0, none⟩, ⟨some 7, .load 9 (.tmp 6), none⟩, ⟨some 8, .binOp .eql 9 (.tmp 5) (.tmp 7) 9, none⟩, ⟨some 3, .assign (.tmp 8), none⟩] ⟨4, 8, []⟩ []) .ret)
theorem z139 : FnF Tryz.prog Tryz.f139 9 c139 [.tmp 3] := ⟨by kernel_rfl, by kernel_rfl, by kernel_rfl, by kernel_rfl, by decide⟩
def c140 : AC :=
 .seq (.reg [⟨some 2, .box 69 (.tmp 0), none⟩, ⟨some 4, .assign (.const (.bool false)), none⟩] ⟨1, 0, []⟩ []) (.seq (.seq (.reg [⟨some 11, .fieldAddr 69 (.tmp 2) 0, none⟩, ⟨some 12, .load 67 (.tmp 11),
 none⟩, ⟨some 13, .call ⟨.builtin .len, #[.tmp 12], #[67]⟩, none⟩, ⟨some 14, .binOp .gtr 3 (.tmp 13) (.const (.int .i64 20)) 3, none⟩, ⟨some 15, .move (.tmp 14), none⟩, ⟨some 16, .fieldAddr 69 (.tmp 2)
 1, some (15, false)⟩, ⟨some 17, .load 38 (.tmp 16), some (15, false)⟩, ⟨some 18, .call ⟨.builtin .len, #[.tmp 17], #[38]⟩, some (15, false)⟩, ⟨some 19, .binOp .gtr 3 (.tmp 18) (.const (.int .i64 20))
 3, some (15, false)⟩, ⟨some 20, .pick (.tmp 15) (.const (.bool true)) (.tmp 19), none⟩] ⟨11, 19, []⟩ []) (.cond (.tmp 20) (.seq (.reg [⟨some 4, .assign (.const (.bool false)), none⟩] ⟨1, 0, []⟩ [])
 .ret) .skip)) (.seq (.seq (.reg [⟨some 21, .fieldAddr 69 (.tmp 2) 0, none⟩, ⟨some 22, .load 67 (.tmp 21), none⟩, ⟨some 23, .call ⟨.builtin .len, #[.tmp 22], #[67]⟩, none⟩, ⟨some 24, .move (.const (.int
 .i64 0)), none⟩] ⟨21, 21, []⟩ []) (.block 0 (.loop (.seq (.reg [⟨some 25, .binOp .lss 3 (.tmp 24) (.tmp 23) 3, none⟩] ⟨1, 0, []⟩ []) (.seq (.cond (.tmp 25) .skip (.exit 0)) (.seq (.block 1 (.seq (.reg
 [⟨some 26, .indexAddr 67 (.tmp 22) (.tmp 24), none⟩, ⟨some 27, .load 126 (.tmp 26), none⟩, ⟨some 6, .alloc 126, none⟩, ⟨none, .store 126 (.tmp 6) (.tmp 27), none⟩] ⟨26, 27, []⟩ []) (.seq (.reg [⟨some
 28, .fieldAddr 126 (.tmp 6) 0, none⟩, ⟨some 29, .load 3 (.tmp 28), none⟩, ⟨some 30, .fieldAddr 126 (.tmp 6) 1, none⟩, ⟨some 31, .load 3 (.tmp 30), none⟩, ⟨some 32, .call ⟨.builtin .min, #[.tmp 29, .tmp
 31], #[3, 3]⟩, none⟩, ⟨some 33, .binOp .lss 3 (.tmp 32) (.const (.int .i64 (-1))) 3, none⟩, ⟨some 34, .move (.tmp 33), none⟩, ⟨some 35, .fieldAddr 126 (.tmp 6) 0, some (34, false)⟩, ⟨some 36, .load 3
 (.tmp 35), some (34, false)⟩, ⟨some 37, .fieldAddr 126 (.tmp 6) 1, some (34, false)⟩, ⟨some 38, .load 3 (.tmp 37), some (34, false)⟩, ⟨some 39, .call ⟨.builtin .max, #[.tmp 36, .tmp 38], #[3, 3]⟩, some
 (34, false)⟩, ⟨some 40, .move (.tmp 1), some (34, false)⟩, ⟨some 41, .call ⟨.builtin .len, #[.tmp 40], #[66]⟩, some (34, false)⟩, ⟨some 42, .binOp .geq 3 (.tmp 39) (.tmp 41) 3, some (34, false)⟩, ⟨some
 43, .pick (.tmp 34) (.const (.bool true)) (.tmp 42), none⟩, ⟨some 44, .move (.tmp 43), none⟩, ⟨some 45, .fieldAddr 126 (.tmp 6) 2, some (44, false)⟩, ⟨some 46, .load 3 (.tmp 45), some (44, false)⟩,
 ⟨some 47, .binOp .lss 3 (.tmp 46) (.const (.int .i64 (-20000))) 3, some (44, false)⟩, ⟨some 48, .pick (.tmp 44) (.const (.bool true)) (.tmp 47), none⟩, ⟨some 49, .move (.tmp 48), none⟩, ⟨some 50,
 .fieldAddr 126 (.tmp 6) 2, some (49, false)⟩, ⟨some 51, .load 3 (.tmp 50), some (49, false)⟩, ⟨some 52, .binOp .gtr 3 (.tmp 51) (.const (.int .i64 20000)) 3, some (49, false)⟩, ⟨some 53, .pick (.tmp
 49) (.const (.bool true)) (.tmp 52), none⟩] ⟨28, 52, []⟩ []) (.cond (.tmp 53) (.seq (.reg [⟨some 4, .assign (.const (.bool false)), none⟩] ⟨1, 0, []⟩ []) .ret) .skip)))) (.reg [⟨some 54, .binOp .add 3
 (.tmp 24) (.const (.int .i64 1)) 3, none⟩, ⟨some 24, .move (.tmp 54), none⟩] ⟨54, 54, []⟩ []))))))) (.seq (.seq (.reg [⟨some 55, .fieldAddr 69 (.tmp 2) 1, none⟩, ⟨some 56, .load 38 (.tmp 55), none⟩,
 ⟨some 57, .call ⟨.builtin .len, #[.tmp 56], #[38]⟩, none⟩, ⟨some 58, .move (.const (.int .i64 0)), none⟩] ⟨55, 55, []⟩ []) (.block 2 (.loop (.seq (.reg [⟨some 59, .binOp .lss 3 (.tmp 58) (.tmp 57) 3,
 none⟩] ⟨1, 0, []⟩ []) (.seq (.cond (.tmp 59) .skip (.exit 2)) (.seq (.block 3 (.seq (.reg [⟨some 60, .indexAddr 38 (.tmp 56) (.tmp 58), none⟩, ⟨some 61, .load 61 (.tmp 60), none⟩, ⟨some 8, .alloc 61,
 none⟩, ⟨none, .store 61 (.tmp 8) (.tmp 61), none⟩] ⟨60, 61, []⟩ []) (.seq (.reg [⟨some 62, .load 61 (.tmp 8), none⟩, ⟨some 63, .move (.const (.int .i64 0)), none⟩] ⟨1, 0, []⟩ []) (.block 4 (.loop (.seq
 (.reg [⟨some 64, .binOp .lss 3 (.tmp 63) (.const (.int .i64 2)) 3, none⟩] ⟨1, 0, []⟩ []) (.seq (.cond (.tmp 64) .skip (.exit 4)) (.seq (.block 5 (.seq (.reg [⟨some 65, .index 61 (.tmp 62) (.tmp 63),
 none⟩, ⟨some 10, .assign (.tmp 65), none⟩] ⟨65, 65, []⟩ []) (.seq (.reg [⟨some 66, .move (.tmp 10), none⟩, ⟨some 67, .binOp .lss 3 (.tmp 66) (.const (.int .i64 0)) 3, none⟩, ⟨some 68, .move (.tmp 67),
 none⟩, ⟨some 69, .move (.tmp 10), some (68, false)⟩, ⟨some 70, .move (.tmp 1), some (68, false)⟩, ⟨some 71, .call ⟨.builtin .len, #[.tmp 70], #[66]⟩, some (68, false)⟩, ⟨some 72, .binOp .geq 3 (.tmp
 69) (.tmp 71) 3, some (68, false)⟩, ⟨some 73, .pick (.tmp 68) (.const (.bool true)) (.tmp 72), none⟩, ⟨some 74, .move (.tmp 73), none⟩, ⟨some 75, .move (.tmp 1), some (74, false)⟩, ⟨some 76, .move
 (.tmp 10), some (74, false)⟩, ⟨some 77, .indexAddr 66 (.tmp 75) (.tmp 76), some (74, false)⟩, ⟨some 78, .fieldAddr 123 (.tmp 77) 1, some (74, false)⟩, ⟨some 79, .fieldAddr 121 (.tmp 78) 0, some (74,
 false)⟩, ⟨some 80, .load 3 (.tmp 79), some (74, false)⟩, ⟨some 81, .binOp .neq 3 (.tmp 80) (.const (.int .i64 2)) 3, some (74, false)⟩, ⟨some 82, .pick (.tmp 74) (.const (.bool true)) (.tmp 81), none⟩]
 ⟨66, 81, []⟩ []) (.cond (.tmp 82) (.seq (.reg [⟨some 4, .assign (.const (.bool false)), none⟩] ⟨1, 0, []⟩ []) .ret) .skip)))) (.reg [⟨some 83, .binOp .add 3 (.tmp 63) (.const (.int .i64 1)) 3, none⟩,
 ⟨some 63, .move (.tmp 83), none⟩] ⟨83, 83, []⟩ []))))))))) (.reg [⟨some 84, .binOp .add 3 (.tmp 58) (.const (.int .i64 1)) 3, none⟩, ⟨some 58, .move (.tmp 84), none⟩] ⟨84, 84, []⟩ []))))))) (.seq (.reg
 [⟨some 4, .assign (.const (.bool true)), none⟩] ⟨1, 0, []⟩ []) .ret))))
theorem z140 : FnF Tryz.prog Tryz.f140 85 c140 [.tmp 4] := ⟨by kernel_rfl, by kernel_rfl, by kernel_rfl, by kernel_rfl, by decide⟩
def c142 : AC :=
 .seq (.reg [⟨some 4, .assign (.const (.int .u64 0)), none⟩, ⟨some 5, .assign (.const (.int .u64 0)), none⟩] ⟨1, 0, []⟩ []) (.seq (.reg [⟨some 14, .move (.tmp 0), none⟩, ⟨some 15, .binOp .and 177 (.tmp
 14) (.const (.int .u64 4294967295)) 177, none⟩, ⟨some 6, .assign (.tmp 15), none⟩] ⟨14, 15, []⟩ []) (.seq (.reg [⟨some 16, .move (.tmp 0), none⟩, ⟨some 17, .binOp .shr 177 (.tmp 16) (.const (.int .u64
 32)) 164, none⟩, ⟨some 7, .assign (.tmp 17), none⟩] ⟨16, 17, []⟩ []) (.seq (.reg [⟨some 18, .move (.tmp 1), none⟩, ⟨some 19, .binOp .and 177 (.tmp 18) (.const (.int .u64 4294967295)) 177, none⟩, ⟨some
 8, .assign (.tmp 19), none⟩] ⟨18, 19, []⟩ []) (.seq (.reg [⟨some 20, .move (.tmp 1), none⟩, ⟨some 21, .binOp .shr 177 (.tmp 20) (.const (.int .u64 32)) 164, none⟩, ⟨some 9, .assign (.tmp 21), none⟩]
 ⟨20, 21, []⟩ []) (.seq (.reg [⟨some 22, .move (.tmp 6), none⟩, ⟨some 23, .move (.tmp 8), none⟩, ⟨some 24, .binOp .mul 177 (.tmp 22) (.tmp 23) 177, none⟩, ⟨some 10, .assign (.tmp 24), none⟩] ⟨22, 24,
 []⟩ []) (.seq (.reg [⟨some 25, .move (.tmp 7), none⟩, ⟨some 26, .move (.tmp 8), none⟩, ⟨some 27, .binOp .mul 177 (.tmp 25) (.tmp 26) 177, none⟩, ⟨some 28, .move (.tmp 10), none⟩, ⟨some 29, .binOp .shr
 177 (.tmp 28) (.const (.int .u64 32)) 164, none⟩, ⟨some 30, .binOp .add 177 (.tmp 27) (.tmp 29) 177, none⟩, ⟨some 11, .assign (.tmp 30), none⟩] ⟨25, 30, []⟩ []) (.seq (.reg [⟨some 31, .move (.tmp 11),
 none⟩, ⟨some 32, .binOp .and 177 (.tmp 31) (.const (.int .u64 4294967295)) 177, none⟩, ⟨some 12, .assign (.tmp 32), none⟩] ⟨31, 32, []⟩ []) (.seq (.reg [⟨some 33, .move (.tmp 11), none⟩, ⟨some 34,
 .binOp .shr 177 (.tmp 33) (.const (.int .u64 32)) 164, none⟩, ⟨some 13, .assign (.tmp 34), none⟩] ⟨33, 34, []⟩ []) (.seq (.reg [⟨some 35, .move (.tmp 12), none⟩, ⟨some 36, .move (.tmp 6), none⟩, ⟨some
 37, .move (.tmp 9), none⟩, ⟨some 38, .binOp .mul 177 (.tmp 36) (.tmp 37) 177, none⟩, ⟨some 39, .binOp .add 177 (.tmp 35) (.tmp 38) 177, none⟩, ⟨some 12, .assign (.tmp 39), none⟩] ⟨35, 39, []⟩ []) (.seq
 (.reg [⟨some 40, .move (.tmp 7), none⟩, ⟨some 41, .move (.tmp 9), none⟩, ⟨some 42, .binOp .mul 177 (.tmp 40) (.tmp 41) 177, none⟩, ⟨some 43, .move (.tmp 13), none⟩, ⟨some 44, .binOp .add 177 (.tmp 42)
 (.tmp 43) 177, none⟩, ⟨some 45, .move (.tmp 12), none⟩, ⟨some 46, .binOp .shr 177 (.tmp 45) (.const (.int .u64 32)) 164, none⟩, ⟨some 47, .binOp .add 177 (.tmp 44) (.tmp 46) 177, none⟩, ⟨some 4,
 .assign (.tmp 47), none⟩] ⟨40, 47, []⟩ []) (.seq (.reg [⟨some 48, .move (.tmp 0), none⟩, ⟨some 49, .move (.tmp 1), none⟩, ⟨some 50, .binOp .mul 177 (.tmp 48) (.tmp 49) 177, none⟩, ⟨some 5, .assign
 (.tmp 50), none⟩] ⟨48, 50, []⟩ []) .ret)))))))))))
theorem z142 : FnF Tryz.prog Tryz.f142 51 c142 [.tmp 4, .tmp 5] := ⟨by kernel_rfl, by kernel_rfl, by kernel_rfl, by kernel_rfl, by decide⟩
def c143 : AC :=
 .seq (.reg [⟨some 2, .assign (.const (.bool false)), none⟩] ⟨1, 0, []⟩ []) (.seq (.reg [⟨some 3, .move (.tmp 0), none⟩, ⟨some 4, .binOp .geq 5 (.tmp 3) (.const (.int .u8 48)) 5, none⟩, ⟨some 5, .move
 (.tmp 4), none⟩, ⟨some 6, .move (.tmp 0), some (5, true)⟩, ⟨some 7, .binOp .leq 5 (.tmp 6) (.const (.int .u8 57)) 5, some (5, true)⟩, ⟨some 8, .pick (.tmp 5) (.tmp 7) (.const (.bool false)), none⟩,
 ⟨some 2, .assign (.tmp 8), none⟩] ⟨3, 8, []⟩ []) .ret)
theorem z143 : FnF Tryz.prog Tryz.f143 9 c143 [.tmp 2] := ⟨by kernel_rfl, by kernel_rfl, by kernel_rfl, by kernel_rfl, by decide⟩
def c144 : AC :=
 .seq (.reg [⟨some 4, .alloc 123, none⟩] ⟨1, 0, []⟩ []) (.seq (.seq (.reg [⟨some 5, .assign (.const (.int .i64 0)), none⟩] ⟨1, 0, []⟩ []) (.block 0 (.loop (.seq (.seq (.reg [⟨some 6, .move (.tmp 5),
 none⟩, ⟨some 7, .move (.tmp 0), none⟩, ⟨some 8, .call ⟨.builtin .len, #[.tmp 7], #[23]⟩, none⟩, ⟨some 9, .binOp .lss 3 (.tmp 6) (.tmp 8) 3, none⟩] ⟨6, 8, []⟩ []) (.cond (.tmp 9) .skip (.exit 0))) (.seq
 (.block 1 (.seq (.seq (.reg [⟨some 12, .move (.tmp 1), none⟩, ⟨some 13, .move (.tmp 0), none⟩, ⟨some 14, .move (.tmp 5), none⟩, ⟨some 15, .indexAddr 23 (.tmp 13) (.tmp 14), none⟩, ⟨some 16, .fieldAddr
 71 (.tmp 15) 1, none⟩, ⟨some 17, .load 66 (.tmp 16), none⟩, ⟨some 18, .call ⟨.builtin .len, #[.tmp 17], #[66]⟩, none⟩, ⟨some 19, .binOp .lss 3 (.tmp 12) (.tmp 18) 3, none⟩] ⟨12, 18, []⟩ []) (.cond
 (.tmp 19) (.seq (.reg [⟨some 20, .move (.tmp 0), none⟩, ⟨some 21, .move (.tmp 5), none⟩, ⟨some 22, .indexAddr 23 (.tmp 20) (.tmp 21), none⟩, ⟨some 23, .fieldAddr 71 (.tmp 22) 1, none⟩, ⟨some 24, .load
 66 (.tmp 23), none⟩, ⟨some 25, .move (.tmp 1), none⟩, ⟨some 26, .indexAddr 66 (.tmp 24) (.tmp 25), none⟩, ⟨some 27, .load 123 (.tmp 26), none⟩, ⟨none, .store 123 (.tmp 4) (.tmp 27), none⟩] ⟨20, 27, []⟩
 []) .ret) .skip)) (.reg [⟨some 28, .move (.tmp 1), none⟩, ⟨some 29, .move (.tmp 0), none⟩, ⟨some 30, .move (.tmp 5), none⟩, ⟨some 31, .indexAddr 23 (.tmp 29) (.tmp 30), none⟩, ⟨some 32, .fieldAddr 71
 (.tmp 31) 1, none⟩, ⟨some 33, .load 66 (.tmp 32), none⟩, ⟨some 34, .call ⟨.builtin .len, #[.tmp 33], #[66]⟩, none⟩, ⟨some 35, .binOp .sub 3 (.tmp 28) (.tmp 34) 3, none⟩, ⟨some 1, .assign (.tmp 35),
 none⟩] ⟨28, 35, []⟩ []))) (.reg [⟨some 10, .move (.tmp 5), none⟩, ⟨some 11, .binOp .add 3 (.tmp 10) (.const (.int .i64 1)) 3, none⟩, ⟨some 5, .assign (.tmp 11), none⟩] ⟨10, 11, []⟩ [])))))) (.seq (.reg
 [⟨some 36, .build 123 #[], none⟩, ⟨none, .store 123 (.tmp 4) (.tmp 36), none⟩] ⟨36, 36, []⟩ []) .ret))
theorem z144 : FnF Tryz.prog Tryz.f144 37 c144 [.cell 4 123] := ⟨by kernel_rfl, by kernel_rfl, by kernel_rfl, by kernel_rfl, by decide⟩
def c146 : AC :=
 .seq (.reg [⟨some 2, .assign (.const (.bool false)), none⟩] ⟨1, 0, []⟩ []) (.seq (.reg [⟨some 3, .move (.tmp 0), none⟩, ⟨some 4, .binOp .leq 5 (.const (.int .u8 48)) (.tmp 3) 5, none⟩, ⟨some 5, .move
 (.tmp 4), none⟩, ⟨some 6, .move (.tmp 0), some (5, true)⟩, ⟨some 7, .binOp .leq 5 (.tmp 6) (.const (.int .u8 57)) 5, some (5, true)⟩, ⟨some 8, .pick (.tmp 5) (.tmp 7) (.const (.bool false)), none⟩,
 ⟨some 2, .assign (.tmp 8), none⟩] ⟨3, 8, []⟩ []) .ret)
theorem z146 : FnF Tryz.prog Tryz.f146 9 c146 [.tmp 2] := ⟨by kernel_rfl, by kernel_rfl, by kernel_rfl, by kernel_rfl, by decide⟩
def c147 : AC :=
 .seq (.reg [⟨some 4, .assign (.const (.bool false)), none⟩] ⟨1, 0, []⟩ []) (.seq (.reg [⟨some 5, .move (.tmp 0), none⟩, ⟨some 6, .move (.tmp 1), none⟩, ⟨some 7, .call ⟨.value (.func 151), #[.tmp 5,
 .tmp 6], #[22, 142]⟩, none⟩, ⟨some 8, .binOp .geq 3 (.tmp 7) (.const (.int .i64 0)) 3, none⟩, ⟨some 4, .assign (.tmp 8), none⟩] ⟨5, 8, []⟩ []) .ret)
theorem z147 : FnF Tryz.prog Tryz.f147 9 c147 [.tmp 4] := ⟨by kernel_rfl, by kernel_rfl, by kernel_rfl, by kernel_rfl, by decide⟩
def c148 : AC :=
 .seq (.reg [⟨some 4, .assign (.const (.slice none 0 0)), none⟩] ⟨1, 0, []⟩ []) (.seq (.reg [⟨some 5, .move (.tmp 0), none⟩, ⟨some 6, .move (.tmp 1), none⟩, ⟨some 7, .call ⟨.value (.func 152), #[.tmp 5,
 .tmp 6, .const (.int .i64 0), .const (.int .i64 (-1))], #[9, 9, 3, 3]⟩, none⟩, ⟨some 4, .assign (.tmp 7), none⟩] ⟨5, 7, []⟩ []) .ret)
theorem z148 : FnF Tryz.prog Tryz.f148 8 c148 [.tmp 4] := ⟨by kernel_rfl, by kernel_rfl, by kernel_rfl, by kernel_rfl, by decide⟩
def c149 : AC :=
 .seq (.reg [⟨some 2, .assign (.const (.bool false)), none⟩] ⟨1, 0, []⟩ []) (.seq (.reg [⟨some 3, .move (.tmp 0), none⟩, ⟨some 4, .call ⟨.value (.func 105), #[.tmp 3], #[9]⟩, none⟩, ⟨some 5, .unOp .not
 4 (.tmp 4), none⟩, ⟨some 2, .assign (.tmp 5), none⟩] ⟨3, 5, []⟩ []) .ret)
theorem z149 : FnF Tryz.prog Tryz.f149 6 c149 [.tmp 2] := ⟨by kernel_rfl, by kernel_rfl, by kernel_rfl, by kernel_rfl, by decide⟩
def c150 : AC :=
 .seq (.reg [⟨some 4, .assign (.const (.int .i64 0)), none⟩] ⟨1, 0, []⟩ []) (.seq (.seq (.reg [⟨some 6, .move (.tmp 0), none⟩, ⟨some 7, .call ⟨.builtin .len, #[.tmp 6], #[66]⟩, none⟩, ⟨some 8, .move
 (.const (.int .i64 0)), none⟩] ⟨6, 6, []⟩ []) (.block 0 (.loop (.seq (.reg [⟨some 9, .binOp .lss 3 (.tmp 8) (.tmp 7) 3, none⟩] ⟨1, 0, []⟩ []) (.seq (.cond (.tmp 9) .skip (.exit 0)) (.seq (.block 1
 (.seq (.reg [⟨some 10, .move (.tmp 8), none⟩, ⟨some 5, .assign (.tmp 10), none⟩] ⟨10, 10, []⟩ []) (.seq (.reg [⟨some 11, .move (.tmp 1), none⟩, ⟨some 12, .move (.tmp 0), none⟩, ⟨some 13, .move (.tmp
 5), none⟩, ⟨some 14, .indexAddr 66 (.tmp 12) (.tmp 13), none⟩, ⟨some 15, .load 123 (.tmp 14), none⟩, ⟨some 16, .call ⟨.value (.tmp 11), #[.tmp 15], #[123]⟩, none⟩] ⟨11, 15, []⟩ []) (.cond (.tmp 16)
 (.seq (.reg [⟨some 17, .move (.tmp 5), none⟩, ⟨some 4, .assign (.tmp 17), none⟩] ⟨17, 17, []⟩ []) .ret) .skip)))) (.reg [⟨some 18, .binOp .add 3 (.tmp 8) (.const (.int .i64 1)) 3, none⟩, ⟨some 8, .move
 (.tmp 18), none⟩] ⟨18, 18, []⟩ []))))))) (.seq (.reg [⟨some 4, .assign (.const (.int .i64 (-1))), none⟩] ⟨1, 0, []⟩ []) .ret))
theorem z150 : FnF Tryz.prog Tryz.f150 19 c150 [.tmp 4] := ⟨by kernel_rfl, by kernel_rfl, by kernel_rfl, by kernel_rfl, by decide⟩
def c151 : AC :=
 .seq (.reg [⟨some 4, .assign (.const (.int .i64 0)), none⟩] ⟨1, 0, []⟩ []) (.seq (.seq (.reg [⟨some 6, .move (.tmp 0), none⟩, ⟨some 7, .call ⟨.builtin .len, #[.tmp 6], #[22]⟩, none⟩, ⟨some 8, .move
 (.const (.int .i64 0)), none⟩] ⟨6, 6, []⟩ []) (.block 0 (.loop (.seq (.reg [⟨some 9, .binOp .lss 3 (.tmp 8) (.tmp 7) 3, none⟩] ⟨1, 0, []⟩ []) (.seq (.cond (.tmp 9) .skip (.exit 0)) (.seq (.block 1
 (.seq (.reg [⟨some 10, .move (.tmp 8), none⟩, ⟨some 5, .assign (.tmp 10), none⟩] ⟨10, 10, []⟩ []) (.seq (.reg [⟨some 11, .move (.tmp 1), none⟩, ⟨some 12, .move (.tmp 0), none⟩, ⟨some 13, .move (.tmp
 5), none⟩, ⟨some 14, .indexAddr 22 (.tmp 12) (.tmp 13), none⟩, ⟨some 15, .load 9 (.tmp 14), none⟩, ⟨some 16, .call ⟨.value (.tmp 11), #[.tmp 15], #[9]⟩, none⟩] ⟨11, 15, []⟩ []) (.cond (.tmp 16) (.seq
 (.reg [⟨some 17, .move (.tmp 5), none⟩, ⟨some 4, .assign (.tmp 17), none⟩] ⟨17, 17, []⟩ []) .ret) .skip)))) (.reg [⟨some 18, .binOp .add 3 (.tmp 8) (.const (.int .i64 1)) 3, none⟩, ⟨some 8, .move (.tmp
 18), none⟩] ⟨18, 18, []⟩ []))))))) (.seq (.reg [⟨some 4, .assign (.const (.int .i64 (-1))), none⟩] ⟨1, 0, []⟩ []) .ret))
theorem z151 : FnF Tryz.prog Tryz.f151 19 c151 [.tmp 4] := ⟨by kernel_rfl, by kernel_rfl, by kernel_rfl, by kernel_rfl, by decide⟩
def c152 : AC :=
 .seq (.reg [⟨some 8, .assign (.const (.slice none 0 0)), none⟩] ⟨1, 0, []⟩ []) (.seq (.seq (.reg [⟨some 12, .move (.tmp 3), none⟩, ⟨some 13, .binOp .eql 3 (.tmp 12) (.const (.int .i64 0)) 3, none⟩]
 ⟨12, 12, []⟩ []) (.cond (.tmp 13) (.seq (.reg [⟨some 8, .assign (.const (.slice none 0 0)), none⟩] ⟨1, 0, []⟩ []) .ret) .skip)) (.seq (.seq (.reg [⟨some 14, .move (.tmp 1), none⟩, ⟨some 15, .binOp .eql
 9 (.tmp 14) (.const (.string ⟨#[]⟩)) 9, none⟩] ⟨14, 14, []⟩ []) (.cond (.tmp 15) (.seq (.reg [⟨some 16, .move (.tmp 0), none⟩, ⟨some 17, .move (.tmp 3), none⟩, ⟨some 18, .call ⟨.value (.func 153),
 #[.tmp 16, .tmp 17], #[9, 3]⟩, none⟩, ⟨some 8, .assign (.tmp 18), none⟩] ⟨16, 18, []⟩ []) .ret) .skip)) (.seq (.seq (.reg [⟨some 19, .move (.tmp 3), none⟩, ⟨some 20, .binOp .lss 3 (.tmp 19) (.const
 (.int .i64 0)) 3, none⟩] ⟨19, 19, []⟩ []) (.cond (.tmp 20) (.reg [⟨some 21, .move (.tmp 0), none⟩, ⟨some 22, .move (.tmp 1), none⟩, ⟨some 23, .call ⟨.value (.func 154), #[.tmp 21, .tmp 22], #[9, 9]⟩,
 none⟩, ⟨some 24, .binOp .add 3 (.tmp 23) (.const (.int .i64 1)) 3, none⟩, ⟨some 3, .assign (.tmp 24), none⟩] ⟨21, 24, []⟩ []) .skip)) (.seq (.reg [⟨some 25, .move (.tmp 3), none⟩, ⟨some 26, .move (.tmp
 0), none⟩, ⟨some 27, .call ⟨.builtin .len, #[.tmp 26], #[9]⟩, none⟩, ⟨some 28, .binOp .add 3 (.tmp 27) (.const (.int .i64 1)) 3, none⟩, ⟨some 29, .call ⟨.builtin .min, #[.tmp 25, .tmp 28], #[3, 3]⟩,
 none⟩, ⟨some 3, .assign (.tmp 29), none⟩] ⟨25, 29, []⟩ []) (.seq (.reg [⟨some 30, .move (.tmp 3), none⟩, ⟨some 31, .makeSlice 22 (.tmp 30) (.tmp 30), none⟩, ⟨some 9, .assign (.tmp 31), none⟩] ⟨30, 31,
 []⟩ []) (.seq (.reg [⟨some 32, .move (.tmp 3), none⟩, ⟨some 33, .binOp .sub 3 (.tmp 32) (.const (.int .i64 1)) 3, none⟩, ⟨some 3, .assign (.tmp 33), none⟩] ⟨32, 33, []⟩ []) (.seq (.reg [⟨some 10,
 .assign (.const (.int .i64 0)), none⟩] ⟨1, 0, []⟩ []) (.seq (.block 0 (.loop (.seq (.seq (.reg [⟨some 34, .move (.tmp 10), none⟩, ⟨some 35, .move (.tmp 3), none⟩, ⟨some 36, .binOp .lss 3 (.tmp 34)
 (.tmp 35) 3, none⟩] ⟨34, 35, []⟩ []) (.cond (.tmp 36) .skip (.exit 0))) (.block 1 (.seq (.reg [⟨some 37, .move (.tmp 0), none⟩, ⟨some 38, .move (.tmp 1), none⟩, ⟨some 39, .call ⟨.value (.func 155),
 #[.tmp 37, .tmp 38], #[9, 9]⟩, none⟩, ⟨some 11, .assign (.tmp 39), none⟩] ⟨37, 39, []⟩ []) (.seq (.seq (.reg [⟨some 40, .move (.tmp 11), none⟩, ⟨some 41, .binOp .lss 3 (.tmp 40) (.const (.int .i64 0))
 3, none⟩] ⟨40, 40, []⟩ []) (.cond (.tmp 41) (.exit 0) .skip)) (.seq (.reg [⟨some 42, .move (.tmp 9), none⟩, ⟨some 43, .move (.tmp 10), none⟩, ⟨some 44, .move (.tmp 0), none⟩, ⟨some 45, .move (.tmp 11),
 none⟩, ⟨some 46, .move (.tmp 2), none⟩, ⟨some 47, .binOp .add 3 (.tmp 45) (.tmp 46) 3, none⟩, ⟨some 48, .slice 9 (.tmp 44) none (some (.tmp 47)) none, none⟩, ⟨some 49, .indexAddr 22 (.tmp 42) (.tmp
 43), none⟩, ⟨none, .store 9 (.tmp 49) (.tmp 48), none⟩] ⟨42, 49, []⟩ []) (.seq (.reg [⟨some 50, .move (.tmp 0), none⟩, ⟨some 51, .move (.tmp 11), none⟩, ⟨some 52, .move (.tmp 1), none⟩, ⟨some 53, .call
 ⟨.builtin .len, #[.tmp 52], #[9]⟩, none⟩, ⟨some 54, .binOp .add 3 (.tmp 51) (.tmp 53) 3, none⟩, ⟨some 55, .slice 9 (.tmp 50) (some (.tmp 54)) none none, none⟩, ⟨some 0, .assign (.tmp 55), none⟩] ⟨50,
 55, []⟩ []) (.reg [⟨some 56, .move (.tmp 10), none⟩, ⟨some 57, .binOp .add 3 (.tmp 56) (.const (.int .i64 1)) 3, none⟩, ⟨some 10, .assign (.tmp 57), none⟩] ⟨56, 57, []⟩ []))))))))) (.seq (.reg [⟨some
 58, .move (.tmp 9), none⟩, ⟨some 59, .move (.tmp 10), none⟩, ⟨some 60, .move (.tmp 0), none⟩, ⟨some 61, .indexAddr 22 (.tmp 58) (.tmp 59), none⟩, ⟨none, .store 9 (.tmp 61) (.tmp 60), none⟩] ⟨58, 61,
 []⟩ []) (.seq (.reg [⟨some 62, .move (.tmp 9), none⟩, ⟨some 63, .move (.tmp 10), none⟩, ⟨some 64, .binOp .add 3 (.tmp 63) (.const (.int .i64 1)) 3, none⟩, ⟨some 65, .slice 22 (.tmp 62) none (some (.tmp
 64)) none, none⟩, ⟨some 8, .assign (.tmp 65), none⟩] ⟨62, 65, []⟩ []) .ret))))))))))
theorem z152 : FnF Tryz.prog Tryz.f152 66 c152 [.tmp 8] := ⟨by kernel_rfl, by kernel_rfl, by kernel_rfl, by kernel_rfl, by decide⟩
end Go.Av
