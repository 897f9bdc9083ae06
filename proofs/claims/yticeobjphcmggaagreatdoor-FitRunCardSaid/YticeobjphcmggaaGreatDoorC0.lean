/- Part of a proof. -/
import Derived.Test.YticeobjphcmggaaGreatDoorF8
import Derived.Test.YticeobjphcmggaaGreatDoorProg
set_option linter.unusedVariables false
set_option linter.unusedSimpArgs false
set_option maxHeartbeats 64000000
namespace Go.Av
open Go Go.RowKit Go.Proofs
def xS (d : Nat) (o : Op) : SOp := ⟨some d, o, none⟩
def xG (d : Nat) (o : Op) (g : Nat) (b : Bool) : SOp := ⟨some d, o, some (g, b)⟩
def x0 (o : Op) : SOp := ⟨none, o, none⟩
def xT (n : Nat) : Operand := .tmp n
def xI (n : Int) : Operand := .const (.int .i64 n)
def xL (t n : Nat) : Op := .load t (.tmp n)
def xM (n : Nat) : Op := .move (.tmp n)
def xF (t n f : Nat) : Op := .fieldAddr t (.tmp n) f
def xA (t n i : Nat) : Op := .indexAddr t (.tmp n) (.tmp i)
def xW (t n v : Nat) : Op := .store t (.tmp n) (.tmp v)
def xP (n : Nat) : Op := .assign (.tmp n)
def xB (b : Bool) : Operand := .const (.bool b)
def xC (f : Nat) (a : Array Operand) (t : Array TypeId) : Op := .call ⟨.value (.func f), a, t⟩
def xN (n t : Nat) : Op := .call ⟨.builtin .len, #[.tmp n], #[t]⟩
def xE (n i : Nat) : Op := .extract (.tmp n) i
def xU (n : Nat) : Op := .unOp .not 4 (.tmp n)
def xO (o : BinOp) (n m : Nat) : Op := .binOp o 3 (.tmp n) (.tmp m) 3
def xJ (o : BinOp) (n : Nat) (m : Int) : Op := .binOp o 3 (.tmp n) (.const (.int .i64 m)) 3
def xK (c n : Nat) (b : Bool) : Op := .pick (.tmp c) (.tmp n) (.const (.bool b))
def xQ (c n : Nat) (b : Bool) : Op := .pick (.tmp c) (.const (.bool b)) (.tmp n)
def xZ (n : Int) : Op := .assign (.const (.int .i64 n))
def xY (b : Bool) : Op := .assign (.const (.bool b))
attribute [go_sem] xS xG x0 xT xI xL xM xF xA xW xP xB xC xN xE xU xO xJ xK xQ xZ xY

/-- What is known of a function, but for its text. -/
structure FnR (P : Program) (f : Func) (m : Nat) (rs : List ResultVar) : Prop where
  b : f.body = some (f.body.getD .skip) := by kernel_rfl
  d : textOk P m (f.body.getD .skip) = true := by kernel_rfl
  r : f.results.toList = rs := by kernel_rfl
  n : f.name ≠ "runtime.NumGoroutine" := by decide
theorem impl_w {P : Program} {f : FuncId} {fn : Func} {rl : List ResultVar} (hf : P.funcs[f]? = some fn) {N : Nat} (z : FnR P fn N rl) (hN0 : fn.ntmps = N) {args : List SV} {r : RV} (hN : args.length ≤ N) (h : awp P (slim (fn.body.getD .skip)) (endsIn P rl r) (slotsOf 0 args)) : Impl P f args r :=
  impl_intro hf z.b rfl z.r z.n hN0 z.d hN fun _ => h
/-- What is known of a function's text. -/
structure FnF (P : Program) (f : Func) (m : Nat) (c : AC) (rs : List ResultVar) : Prop where
  b : f.body = some (f.body.getD .skip)
  e : slim (f.body.getD .skip) = c
  d : textOk P m (f.body.getD .skip) = true
  r : f.results.toList = rs
  n : f.name ≠ "runtime.NumGoroutine"
theorem impl_z {P : Program} {f : FuncId} {fn : Func} {ac : AC} {rl : List ResultVar} (hf : P.funcs[f]? = some fn) {N : Nat} (z : FnF P fn N ac rl) (hN0 : fn.ntmps = N) {args : List SV} {r : RV} (hN : args.length ≤ N) (h : awp P ac (endsIn P rl r) (slotsOf 0 args)) : Impl P f args r :=
  impl_intro hf z.b z.e z.r z.n hN0 z.d hN fun _ => h
theorem z3 : FnR Tryz.prog Tryz.f3 38 [.tmp 4] := {}
def c9 : AC :=
 .seq (.reg [xS 0 (xY false)] ⟨1, 0, []⟩ []) (.seq (.reg [xS 7 (.buildSlice 22 3 #[(0, .const (.string ⟨#[65]⟩)), (1, .const (.string ⟨#[66]⟩)), (2, .const (.string ⟨#[67]⟩))]), xS 8 (.build 61 #[(0, .const (.string ⟨#[120]⟩))]), xS 9 (.build 61 #[(0, .const (.string ⟨#[121]⟩))]), xS 10 (.buildSlice 23 2 #[(0, xT 8), (1, xT 9)]), xS 11 (.build 47 #[(1, .const (.int .i64 1))]), xS 12 (.build 49 #[(1, xT 11), (2, .const (.int .i64 1))]), xS 13 (.build 47 #[(1, .const (.int .i64 2)), (2, .const (.int .i64 1))]), xS 14 (.build 49 #[(0, .const (.int .i64 1)), (1, xT 13), (2, .const (.int .i64 2))]), xS 15 (.buildSlice 24 2 #[(0, xT 12), (1, xT 14)]), xS 16 (.build 27 #[(0, .const (.string ⟨#[80]⟩)), (1, xT 7), (2, xT 10), (3, .const (.int .i64 3)), (5, .const (.int .i64 2)), (6, xT 15)]), xS 1 (.alloc 27), x0 (xW 27 1 16)] ⟨7, 16, []⟩ []) (.seq (.reg [xS 17 (.build 64 #[(1, xB true), (2, .const (.int .i64 1))]), xS 18 (.buildSlice 37 1 #[(0, xT 17)]), xS 19 (.build 64 #[(0, .const (.int .i64 2)), (3, .const (.int .i64 1))]), xS 20 (.buildSlice 37 1 #[(0, xT 19)]), xS 21 (.buildSlice 28 3 #[(0, xT 18), (1, .const (.slice none 0 0)), (2, xT 20)]), xS 2 (xP 21)] ⟨17, 21, []⟩ []) (.seq (.reg [xS 23 (xL 27 1), xS 24 (xM 2), xS 25 (xC 11 #[xT 23, xT 24] #[27, 28]), xS 22 (xM 25), xS 26 (xE 22 0), xS 27 (xE 22 1), xS 3 (xP 26), xS 4 (xP 27)] ⟨22, 27, []⟩ []) (.seq (.reg [xS 29 (xL 27 1), xS 30 (xM 2), xS 31 (xC 14 #[xT 29, xT 30, .const (.int .i64 0)] #[27, 28, 3]), xS 28 (xM 31), xS 32 (xE 28 0), xS 33 (xE 28 1), xS 5 (xP 32), xS 6 (xP 33)] ⟨28, 33, []⟩ []) (.seq (.reg [xS 34 (xM 4), xS 35 (.binOp .eql 32 (xT 34) (xI 0) 32), xS 36 (xM 35), xG 37 (xM 3) 36 true, xG 38 (xN 37 31) 36 true, xG 39 (xJ .eql 38 2) 36 true, xS 40 (xK 36 39 false), xS 41 (xM 40), xG 42 (xM 6) 41 true, xG 43 (.binOp .eql 32 (xT 42) (xI 0) 32) 41 true, xS 44 (xK 41 43 false), xS 45 (xM 44), xG 46 (xM 5) 45 true, xG 47 (xN 46 37) 45 true, xG 48 (xJ .eql 47 1) 45 true, xS 49 (xK 45 48 false), xS 50 (xM 49), xG 51 (xM 5) 50 true, xG 52 (.indexAddr 37 (xT 51) (xI 0)) 50 true, xG 53 (xF 64 52 1) 50 true, xG 54 (xL 4 53) 50 true, xS 55 (xK 50 54 false), xS 56 (xM 55), xG 57 (xM 5) 56 true, xG 58 (.indexAddr 37 (xT 57) (xI 0)) 56 true, xG 59 (xF 64 58 2) 56 true, xG 60 (xL 3 59) 56 true, xG 61 (xJ .eql 60 2) 56 true, xS 62 (xK 56 61 false), xS 63 (xM 62), xG 64 (xM 5) 63 true, xG 65 (.indexAddr 37 (xT 64) (xI 0)) 63 true, xG 66 (xF 64 65 3) 63 true, xG 67 (xL 3 66) 63 true, xG 68 (xJ .eql 67 1) 63 true, xS 69 (xK 63 68 false), xS 70 (xM 69), xG 71 (xL 27 1) 70 true, xG 72 (xM 2) 70 true, xG 73 (xC 17 #[xT 71, xT 72] #[27, 28]) 70 true, xG 74 (.binOp .eql 32 (xT 73) (xI 23) 32) 70 true, xS 75 (xK 70 74 false), xS 0 (xP 75)] ⟨34, 75, []⟩ []) .ret)))))
theorem z9 : FnF Tryz.prog Tryz.f9 76 c9 [.tmp 0] := ⟨by kernel_rfl, by kernel_rfl, by kernel_rfl, by kernel_rfl, by decide⟩
theorem z10 : FnR Tryz.prog Tryz.f10 44 [.tmp 6] := {}
theorem z11 : FnR Tryz.prog Tryz.f11 35 [.tmp 4, .tmp 5] := {}
theorem z12 : FnR Tryz.prog Tryz.f12 40 [.tmp 4, .tmp 5] := {}
theorem z13 : FnR Tryz.prog Tryz.f13 26 [.tmp 4] := {}
theorem z14 : FnR Tryz.prog Tryz.f14 109 [.tmp 6, .tmp 7] := {}
theorem z17 : FnR Tryz.prog Tryz.f17 67 [.tmp 4] := {}
theorem z20 : FnR Tryz.prog Tryz.f20 42 [.tmp 4] := {}
theorem z25 : FnR Tryz.prog Tryz.f25 29 [.tmp 2] := {}
theorem z26 : FnR Tryz.prog Tryz.f26 202 [.tmp 4, .tmp 5] := {}
theorem z27 : FnR Tryz.prog Tryz.f27 19 [.tmp 4] := {}
theorem z28 : FnR Tryz.prog Tryz.f28 106 [.tmp 4, .tmp 5] := {}
theorem z29 : FnR Tryz.prog Tryz.f29 9 [.tmp 4] := {}
theorem z30 : FnR Tryz.prog Tryz.f30 8 [.tmp 3] := {}
theorem z31 : FnR Tryz.prog Tryz.f31 8 [.tmp 2] := {}
theorem z32 : FnR Tryz.prog Tryz.f32 8 [.tmp 2] := {}
theorem z34 : FnR Tryz.prog Tryz.f34 131 [.tmp 8] := {}
theorem z37 : FnR Tryz.prog Tryz.f37 38 [.tmp 2] := {}
theorem z41 : FnR Tryz.prog Tryz.f41 20 [.tmp 4] := {}
theorem z45 : FnR Tryz.prog Tryz.f45 42 [.tmp 2] := {}
theorem z46 : FnR Tryz.prog Tryz.f46 57 [.tmp 4] := {}
theorem z47 : FnR Tryz.prog Tryz.f47 29 [.tmp 4] := {}
theorem z48 : FnR Tryz.prog Tryz.f48 28 [] := {}
theorem z49 : FnR Tryz.prog Tryz.f49 40 [.tmp 10, .tmp 11] := {}
theorem z50 : FnR Tryz.prog Tryz.f50 21 [.tmp 2] := {}
theorem z51 : FnR Tryz.prog Tryz.f51 53 [.tmp 2] := {}
theorem z52 : FnR Tryz.prog Tryz.f52 23 [.tmp 4] := {}
theorem z53 : FnR Tryz.prog Tryz.f53 49 [.tmp 4] := {}
theorem z54 : FnR Tryz.prog Tryz.f54 103 [.cell 10 98, .tmp 11] := {}
theorem z55 : FnR Tryz.prog Tryz.f55 29 [.tmp 4] := {}
theorem z56 : FnR Tryz.prog Tryz.f56 19 [.tmp 4] := {}
theorem z57 : FnR Tryz.prog Tryz.f57 30 [.tmp 8, .tmp 9] := {}
theorem z58 : FnR Tryz.prog Tryz.f58 31 [.tmp 6, .tmp 7] := {}
theorem z60 : FnR Tryz.prog Tryz.f60 36 [.tmp 8] := {}
theorem z67 : FnR Tryz.prog Tryz.f67 41 [.tmp 2] := {}
theorem z68 : FnR Tryz.prog Tryz.f68 96 [.tmp 2] := {}
theorem z69 : FnR Tryz.prog Tryz.f69 15 [.tmp 2] := {}
theorem z70 : FnR Tryz.prog Tryz.f70 98 [.tmp 2] := {}
theorem z71 : FnR Tryz.prog Tryz.f71 64 [.tmp 2] := {}
theorem z72 : FnR Tryz.prog Tryz.f72 9 [.tmp 4] := {}
theorem z73 : FnR Tryz.prog Tryz.f73 67 [.tmp 6] := {}
theorem z74 : FnR Tryz.prog Tryz.f74 6 [.tmp 2] := {}
theorem z79 : FnR Tryz.prog Tryz.f79 9 [] := {}
theorem z80 : FnR Tryz.prog Tryz.f80 32 [.tmp 5] := {}
theorem z81 : FnR Tryz.prog Tryz.f81 18 [.tmp 2] := {}
theorem z82 : FnR Tryz.prog Tryz.f82 50 [.tmp 2] := {}
theorem z83 : FnR Tryz.prog Tryz.f83 109 [.tmp 2] := {}
theorem z84 : FnR Tryz.prog Tryz.f84 97 [.tmp 2] := {}
theorem z85 : FnR Tryz.prog Tryz.f85 82 [.tmp 2] := {}
theorem z86 : FnR Tryz.prog Tryz.f86 82 [.tmp 2] := {}
theorem z87 : FnR Tryz.prog Tryz.f87 44 [.tmp 6] := {}
theorem z88 : FnR Tryz.prog Tryz.f88 40 [.tmp 10] := {}
theorem z89 : FnR Tryz.prog Tryz.f89 51 [.tmp 6] := {}
theorem z90 : FnR Tryz.prog Tryz.f90 28 [.tmp 4] := {}
theorem z91 : FnR Tryz.prog Tryz.f91 17 [.tmp 6] := {}
theorem z92 : FnR Tryz.prog Tryz.f92 93 [.tmp 4] := {}
theorem z93 : FnR Tryz.prog Tryz.f93 20 [.tmp 2] := {}
def c100 : AC :=
 .seq (.reg [xS 2 (xY false)] ⟨1, 0, []⟩ []) (.seq (.reg [xS 4 (.build 158 #[(0, .const (.string ⟨#[97, 103, 97, 105, 110]⟩)), (1, .const (.string ⟨#[97, 110, 100]⟩)), (2, .const (.string ⟨#[97, 115]⟩)), (3, .const (.string ⟨#[97, 116]⟩)), (4, .const (.string ⟨#[99, 97, 108, 108]⟩)), (5, .const (.string ⟨#[99, 104, 111, 105, 99, 101]⟩)), (6, .const (.string ⟨#[101, 108, 115, 101]⟩)), (7, .const (.string ⟨#[102, 114, 111, 109]⟩)), (8, .const (.string ⟨#[105, 102]⟩)), (9, .const (.string ⟨#[105, 110, 116]⟩)), (10, .const (.string ⟨#[108, 101, 110]⟩)), (11, .const (.string ⟨#[108, 111, 111, 112]⟩)), (12, .const (.string ⟨#[109, 101, 115, 115, 97, 103, 101]⟩)), (13, .const (.string ⟨#[111, 102]⟩)), (14, .const (.string ⟨#[111, 102, 102, 101, 114]⟩)), (15, .const (.string ⟨#[111, 110]⟩)), (16, .const (.string ⟨#[111, 114]⟩)), (17, .const (.string ⟨#[112, 97, 114]⟩)), (18, .const (.string ⟨#[112, 108, 97, 121, 115]⟩)), (19, .const (.string ⟨#[112, 114, 111, 116, 111, 99, 111, 108]⟩)), (20, .const (.string ⟨#[115, 101, 114, 118, 105, 99, 101]⟩)), (21, .const (.string ⟨#[116, 101, 120, 116]⟩)), (22, .const (.string ⟨#[116, 105, 109, 101, 115]⟩)), (23, .const (.string ⟨#[116, 111]⟩)), (24, .const (.string ⟨#[118, 97, 114]⟩)), (25, .const (.string ⟨#[119, 104, 101, 114, 101]⟩)), (26, .const (.string ⟨#[119, 104, 105, 108, 101]⟩)), (27, .const (.string ⟨#[119, 105, 116, 104, 105, 110]⟩))]), xS 3 (.alloc 158), x0 (xW 158 3 4)] ⟨4, 4, []⟩ []) (.seq (.reg [xS 5 (xM 0), xS 6 (xC 119 #[xT 5] #[9]), xS 7 (xM 6), xG 8 (.slice 158 (xT 3) none none none) 7 true, xG 9 (xM 0) 7 true, xG 10 (xC 101 #[xT 8, xT 9] #[22, 9]) 7 true, xG 11 (xU 10) 7 true, xS 12 (xK 7 11 false), xS 2 (xP 12)] ⟨5, 12, []⟩ []) .ret))
theorem z100 : FnF Tryz.prog Tryz.f100 13 c100 [.tmp 2] := ⟨by kernel_rfl, by kernel_rfl, by kernel_rfl, by kernel_rfl, by decide⟩
theorem z101 : FnR Tryz.prog Tryz.f101 9 [.tmp 4] := {}
theorem z102 : FnR Tryz.prog Tryz.f102 24 [.tmp 4, .tmp 5] := {}
theorem z103 : FnR Tryz.prog Tryz.f103 19 [.tmp 4] := {}
def c104 : AC :=
 .seq (.reg [xS 4 (.assign (.const (.slice none 0 0)))] ⟨1, 0, []⟩ []) (.seq (.seq (.reg [xS 9 (xM 1), xS 10 (xJ .lss 9 0)] ⟨9, 9, []⟩ []) (.cond (.tmp 10) (.reg [xS 11 (.makeInterface 9 (.const (.string ⟨#[99, 97, 110, 110, 111, 116, 32, 98, 101, 32, 110, 101, 103, 97, 116, 105, 118, 101]⟩))), x0 (.panic (xT 11))] ⟨11, 11, []⟩ []) .skip)) (.seq (.reg [xS 13 (xM 0), xS 14 (xN 13 66), xS 15 (.convert 3 160 (xT 14)), xS 16 (xM 1), xS 17 (.convert 3 160 (xT 16)), xS 18 (xC 122 #[xT 15, xT 17] #[160, 160]), xS 12 (xM 18), xS 19 (xE 12 0), xS 20 (xE 12 1), xS 5 (xP 19), xS 6 (xP 20)] ⟨12, 20, []⟩ []) (.seq (.seq (.reg [xS 21 (xM 5), xS 22 (.binOp .gtr 160 (xT 21) (.const (.int .u64 0)) 160), xS 23 (xM 22), xG 24 (xM 6) 23 false, xG 25 (.binOp .gtr 160 (xT 24) (.const (.int .u64 9223372036854775807)) 160) 23 false, xS 26 (xQ 23 25 true)] ⟨21, 25, []⟩ []) (.cond (.tmp 26) (.reg [xS 27 (.makeInterface 9 (.const (.string ⟨#[116, 104, 101, 32, 114, 101, 115, 117, 108, 116, 32, 111, 102, 32, 40, 108, 101, 110, 40, 120, 41, 32, 42, 32, 99, 111, 117, 110, 116, 41, 32, 111, 118, 101, 114, 102, 108, 111, 119, 115]⟩))), x0 (.panic (xT 27))] ⟨27, 27, []⟩ []) .skip)) (.seq (.reg [xS 28 (xM 6), xS 29 (.convert 160 3 (xT 28)), xS 30 (.makeSlice 66 (xT 29) (xT 29)), xS 7 (xP 30)] ⟨28, 30, []⟩ []) (.seq (.reg [xS 31 (xM 7), xS 32 (xM 0), xS 33 (.call ⟨.builtin .copy, #[xT 31, xT 32], #[66, 66]⟩), xS 8 (xP 33)] ⟨31, 33, []⟩ []) (.seq (.block 0 (.loop (.seq (.seq (.reg [xS 34 (xM 8), xS 35 (xM 7), xS 36 (xN 35 66), xS 37 (xO .lss 34 36)] ⟨34, 36, []⟩ []) (.cond (.tmp 37) .skip (.exit 0))) (.block 1 (.drw [⟨xS 38 (xM 8), []⟩, ⟨xS 39 (xM 7), []⟩, ⟨xS 40 (xM 8), []⟩, ⟨xS 41 (.slice 66 (xT 39) (some (xT 40)) none none), [39, 40]⟩, ⟨xS 42 (xM 7), []⟩, ⟨xS 43 (xM 8), []⟩, ⟨xS 44 (.slice 66 (xT 42) none (some (xT 43)) none), [42, 43]⟩] [⟨xS 45 (.call ⟨.builtin .copy, #[xT 41, xT 44], #[66, 66]⟩), [41, 39, 40, 44, 42, 43], [true, false, false, false, false, false, false]⟩, ⟨xS 46 (xO .add 38 45), [38], []⟩, ⟨xS 8 (xP 46), [], []⟩] ⟨38, 44, []⟩ ⟨38, 46, []⟩ []))))) (.seq (.reg [xS 47 (xM 7), xS 4 (xP 47)] ⟨47, 47, []⟩ []) .ret)))))))
theorem z104 : FnF Tryz.prog Tryz.f104 48 c104 [.tmp 4] := ⟨by kernel_rfl, by kernel_rfl, by kernel_rfl, by kernel_rfl, by decide⟩
theorem z106 : FnR Tryz.prog Tryz.f106 63 [] := {}
theorem z107 : FnR Tryz.prog Tryz.f107 11 [.tmp 2] := {}
theorem z108 : FnR Tryz.prog Tryz.f108 19 [.tmp 4] := {}
theorem z109 : FnR Tryz.prog Tryz.f109 111 [.tmp 2] := {}
theorem z110 : FnR Tryz.prog Tryz.f110 13 [.tmp 4] := {}
theorem z111 : FnR Tryz.prog Tryz.f111 64 [.tmp 2] := {}
theorem z112 : FnR Tryz.prog Tryz.f112 85 [.tmp 2] := {}
theorem z113 : FnR Tryz.prog Tryz.f113 18 [.tmp 2] := {}
theorem z115 : FnR Tryz.prog Tryz.f115 8 [.tmp 2] := {}
theorem z118 : FnR Tryz.prog Tryz.f118 37 [.cell 4 134] := {}
def c119 : AC :=
 .seq (.reg [xS 2 (xY false)] ⟨1, 0, []⟩ []) (.seq (.seq (.reg [xS 4 (xM 0), xS 5 (.binOp .eql 9 (xT 4) (.const (.string ⟨#[]⟩)) 9), xS 6 (xM 5), xG 7 (xM 0) 6 false, xG 8 (xN 7 9) 6 false, xG 9 (xJ .gtr 8 16) 6 false, xS 10 (xQ 6 9 true), xS 11 (xM 10), xG 12 (xM 0) 11 false, xG 13 (.index 9 (xT 12) (xI 0)) 11 false, xG 14 (xC 140 #[xT 13] #[5]) 11 false, xG 15 (xU 14) 11 false, xS 16 (xQ 11 15 true)] ⟨4, 15, []⟩ []) (.cond (.tmp 16) (.seq (.reg [xS 2 (xY false)] ⟨1, 0, []⟩ []) .ret) .skip)) (.seq (.seq (.reg [xS 17 (xM 0), xS 18 (xN 17 9), xS 19 (.move (xI 0))] ⟨17, 17, []⟩ []) (.block 0 (.loop (.seq (.reg [xS 20 (xO .lss 19 18)] ⟨1, 0, []⟩ []) (.seq (.cond (.tmp 20) .skip (.exit 0)) (.seq (.block 1 (.seq (.reg [xS 21 (xM 19), xS 3 (xP 21)] ⟨21, 21, []⟩ []) (.seq (.reg [xS 22 (xM 0), xS 23 (xM 3), xS 24 (.index 9 (xT 22) (xT 23)), xS 25 (xC 141 #[xT 24] #[5]), xS 26 (xU 25)] ⟨22, 25, []⟩ []) (.cond (.tmp 26) (.seq (.reg [xS 2 (xY false)] ⟨1, 0, []⟩ []) .ret) .skip)))) (.reg [xS 27 (xJ .add 19 1), xS 19 (xM 27)] ⟨27, 27, []⟩ []))))))) (.seq (.reg [xS 2 (xY true)] ⟨1, 0, []⟩ []) .ret)))
theorem z119 : FnF Tryz.prog Tryz.f119 28 c119 [.tmp 2] := ⟨by kernel_rfl, by kernel_rfl, by kernel_rfl, by kernel_rfl, by decide⟩
theorem z120 : FnR Tryz.prog Tryz.f120 19 [.tmp 4] := {}
theorem z121 : FnR Tryz.prog Tryz.f121 65 [.tmp 2] := {}
theorem z122 : FnR Tryz.prog Tryz.f122 30 [.tmp 4, .tmp 5] := {}
theorem z123 : FnR Tryz.prog Tryz.f123 53 [] := {}
theorem z124 : FnR Tryz.prog Tryz.f124 220 [] := {}
def c125 : AC :=
 .seq (.reg [xS 2 (xY false)] ⟨1, 0, []⟩ []) (.seq (.seq (.reg [xS 4 (xM 0), xS 5 (.binOp .eql 9 (xT 4) (.const (.string ⟨#[]⟩)) 9), xS 6 (xM 5), xG 7 (xM 0) 6 false, xG 8 (.index 9 (xT 7) (xI 0)) 6 false, xG 9 (xC 145 #[xT 8] #[5]) 6 false, xG 10 (xU 9) 6 false, xS 11 (xQ 6 10 true), xS 12 (xM 11), xG 13 (xM 0) 12 false, xG 14 (xN 13 9) 12 false, xG 15 (xJ .gtr 14 16) 12 false, xS 16 (xQ 12 15 true)] ⟨4, 15, []⟩ []) (.cond (.tmp 16) (.seq (.reg [xS 2 (xY false)] ⟨1, 0, []⟩ []) .ret) .skip)) (.seq (.seq (.reg [xS 3 (xZ 0)] ⟨1, 0, []⟩ []) (.block 0 (.loop (.seq (.seq (.reg [xS 17 (xM 3), xS 18 (xM 0), xS 19 (xN 18 9), xS 20 (xO .lss 17 19)] ⟨17, 19, []⟩ []) (.cond (.tmp 20) .skip (.exit 0))) (.seq (.block 1 (.seq (.reg [xS 23 (xM 0), xS 24 (xM 3), xS 25 (.index 9 (xT 23) (xT 24)), xS 26 (xC 146 #[xT 25] #[5]), xS 27 (xU 26)] ⟨23, 26, []⟩ []) (.cond (.tmp 27) (.seq (.reg [xS 2 (xY false)] ⟨1, 0, []⟩ []) .ret) .skip))) (.reg [xS 21 (xM 3), xS 22 (xJ .add 21 1), xS 3 (xP 22)] ⟨21, 22, []⟩ [])))))) (.seq (.reg [xS 2 (xY true)] ⟨1, 0, []⟩ []) .ret)))
theorem z125 : FnF Tryz.prog Tryz.f125 28 c125 [.tmp 2] := ⟨by kernel_rfl, by kernel_rfl, by kernel_rfl, by kernel_rfl, by decide⟩
theorem z126 : FnR Tryz.prog Tryz.f126 18 [.tmp 4] := {}
def c127 : AC :=
 .seq (.reg [xS 0 (.assign (.const (.slice none 0 0)))] ⟨1, 0, []⟩ []) (.seq (.reg [xS 1 (.buildSlice 22 28 #[(0, .const (.string ⟨#[97, 103, 97, 105, 110]⟩)), (1, .const (.string ⟨#[97, 110, 100]⟩)), (2, .const (.string ⟨#[97, 115]⟩)), (3, .const (.string ⟨#[97, 116]⟩)), (4, .const (.string ⟨#[99, 97, 108, 108]⟩)), (5, .const (.string ⟨#[99, 104, 111, 105, 99, 101]⟩)), (6, .const (.string ⟨#[101, 108, 115, 101]⟩)), (7, .const (.string ⟨#[102, 114, 111, 109]⟩)), (8, .const (.string ⟨#[105, 102]⟩)), (9, .const (.string ⟨#[105, 110, 116]⟩)), (10, .const (.string ⟨#[108, 101, 110]⟩)), (11, .const (.string ⟨#[108, 111, 111, 112]⟩)), (12, .const (.string ⟨#[109, 101, 115, 115, 97, 103, 101]⟩)), (13, .const (.string ⟨#[111, 102]⟩)), (14, .const (.string ⟨#[111, 102, 102, 101, 114]⟩)), (15, .const (.string ⟨#[111, 110]⟩)), (16, .const (.string ⟨#[111, 114]⟩)), (17, .const (.string ⟨#[112, 97, 114]⟩)), (18, .const (.string ⟨#[112, 108, 97, 121, 115]⟩)), (19, .const (.string ⟨#[112, 114, 111, 116, 111, 99, 111, 108]⟩)), (20, .const (.string ⟨#[115, 101, 114, 118, 105, 99, 101]⟩)), (21, .const (.string ⟨#[116, 101, 120, 116]⟩)), (22, .const (.string ⟨#[116, 105, 109, 101, 115]⟩)), (23, .const (.string ⟨#[116, 111]⟩)), (24, .const (.string ⟨#[118, 97, 114]⟩)), (25, .const (.string ⟨#[119, 104, 101, 114, 101]⟩)), (26, .const (.string ⟨#[119, 104, 105, 108, 101]⟩)), (27, .const (.string ⟨#[119, 105, 116, 104, 105, 110]⟩))]), xS 0 (xP 1)] ⟨1, 1, []⟩ []) .ret)
theorem z127 : FnF Tryz.prog Tryz.f127 2 c127 [.tmp 0] := ⟨by kernel_rfl, by kernel_rfl, by kernel_rfl, by kernel_rfl, by decide⟩
theorem z128 : FnR Tryz.prog Tryz.f128 35 [.tmp 2] := {}
theorem z129 : FnR Tryz.prog Tryz.f129 32 [.tmp 2] := {}
theorem z130 : FnR Tryz.prog Tryz.f130 90 [.tmp 4] := {}
def c131 : AC :=
 .seq (.reg [xS 2 (xY false)] ⟨1, 0, []⟩ []) (.seq (.reg [xS 3 (xM 0), xS 4 (xN 3 9), xS 5 (xJ .leq 4 50), xS 6 (xM 5), xG 7 (xM 0) 6 true, xG 8 (xC 150 #[xT 7, .const (.string ⟨#[46]⟩)] #[9, 9]) 6 true, xG 9 (xC 149 #[xT 8, .func 151] #[22, 137]) 6 true, xG 10 (xU 9) 6 true, xS 11 (xK 6 10 false), xS 2 (xP 11)] ⟨3, 11, []⟩ []) .ret)
theorem z131 : FnF Tryz.prog Tryz.f131 12 c131 [.tmp 2] := ⟨by kernel_rfl, by kernel_rfl, by kernel_rfl, by kernel_rfl, by decide⟩
theorem z132 : FnR Tryz.prog Tryz.f132 9 [.tmp 4] := {}
theorem z133 : FnR Tryz.prog Tryz.f133 9 [.tmp 3] := {}
theorem z134 : FnR Tryz.prog Tryz.f134 39 [.tmp 2] := {}
theorem z135 : FnR Tryz.prog Tryz.f135 9 [.tmp 4] := {}
theorem z136 : FnR Tryz.prog Tryz.f136 9 [.tmp 3] := {}
theorem z137 : FnR Tryz.prog Tryz.f137 85 [.tmp 4] := {}
theorem z140 : FnR Tryz.prog Tryz.f140 17 [.tmp 2] := {}
theorem z141 : FnR Tryz.prog Tryz.f141 13 [.tmp 2] := {}
theorem z143 : FnR Tryz.prog Tryz.f143 51 [.tmp 4, .tmp 5] := {}
theorem z144 : FnR Tryz.prog Tryz.f144 58 [] := {}
theorem z145 : FnR Tryz.prog Tryz.f145 17 [.tmp 2] := {}
theorem z146 : FnR Tryz.prog Tryz.f146 13 [.tmp 2] := {}
theorem z147 : FnR Tryz.prog Tryz.f147 5 [.tmp 2] := {}
theorem z148 : FnR Tryz.prog Tryz.f148 21 [.tmp 4] := {}
theorem z149 : FnR Tryz.prog Tryz.f149 9 [.tmp 4] := {}
theorem z150 : FnR Tryz.prog Tryz.f150 8 [.tmp 4] := {}
theorem z151 : FnR Tryz.prog Tryz.f151 6 [.tmp 2] := {}
theorem z152 : FnR Tryz.prog Tryz.f152 19 [.tmp 4] := {}
theorem z153 : FnR Tryz.prog Tryz.f153 19 [.tmp 4] := {}
theorem z155 : FnR Tryz.prog Tryz.f155 9 [.tmp 2] := {}
theorem z156 : FnR Tryz.prog Tryz.f156 38 [] := {}
theorem z157 : FnR Tryz.prog Tryz.f157 9 [.tmp 2] := {}
theorem z158 : FnR Tryz.prog Tryz.f158 19 [.tmp 4] := {}
def c159 : AC :=
 .seq (.reg [xS 8 (.assign (.const (.slice none 0 0)))] ⟨1, 0, []⟩ []) (.seq (.seq (.reg [xS 12 (xM 3), xS 13 (xJ .eql 12 0)] ⟨12, 12, []⟩ []) (.cond (.tmp 13) (.seq (.reg [xS 8 (.assign (.const (.slice none 0 0)))] ⟨1, 0, []⟩ []) .ret) .skip)) (.seq (.seq (.reg [xS 14 (xM 1), xS 15 (.binOp .eql 9 (xT 14) (.const (.string ⟨#[]⟩)) 9)] ⟨14, 14, []⟩ []) (.cond (.tmp 15) (.seq (.reg [xS 16 (xM 0), xS 17 (xM 3), xS 18 (xC 161 #[xT 16, xT 17] #[9, 3]), xS 8 (xP 18)] ⟨16, 18, []⟩ []) .ret) .skip)) (.seq (.seq (.reg [xS 19 (xM 3), xS 20 (xJ .lss 19 0)] ⟨19, 19, []⟩ []) (.cond (.tmp 20) (.reg [xS 21 (xM 0), xS 22 (xM 1), xS 23 (xC 162 #[xT 21, xT 22] #[9, 9]), xS 24 (xJ .add 23 1), xS 3 (xP 24)] ⟨21, 24, []⟩ []) .skip)) (.seq (.reg [xS 25 (xM 3), xS 26 (xM 0), xS 27 (xN 26 9), xS 28 (xJ .add 27 1), xS 29 (.call ⟨.builtin .min, #[xT 25, xT 28], #[3, 3]⟩), xS 3 (xP 29)] ⟨25, 29, []⟩ []) (.seq (.reg [xS 30 (xM 3), xS 31 (.makeSlice 22 (xT 30) (xT 30)), xS 9 (xP 31)] ⟨30, 31, []⟩ []) (.seq (.reg [xS 32 (xM 3), xS 33 (xJ .sub 32 1), xS 3 (xP 33)] ⟨32, 33, []⟩ []) (.seq (.reg [xS 10 (xZ 0)] ⟨1, 0, []⟩ []) (.seq (.block 0 (.loop (.seq (.seq (.reg [xS 34 (xM 10), xS 35 (xM 3), xS 36 (xO .lss 34 35)] ⟨34, 35, []⟩ []) (.cond (.tmp 36) .skip (.exit 0))) (.block 1 (.seq (.reg [xS 37 (xM 0), xS 38 (xM 1), xS 39 (xC 163 #[xT 37, xT 38] #[9, 9]), xS 11 (xP 39)] ⟨37, 39, []⟩ []) (.seq (.seq (.reg [xS 40 (xM 11), xS 41 (xJ .lss 40 0)] ⟨40, 40, []⟩ []) (.cond (.tmp 41) (.exit 0) .skip)) (.seq (.reg [xS 42 (xM 9), xS 43 (xM 10), xS 44 (xM 0), xS 45 (xM 11), xS 46 (xM 2), xS 47 (xO .add 45 46), xS 48 (.slice 9 (xT 44) none (some (xT 47)) none), xS 49 (xA 22 42 43), x0 (xW 9 49 48)] ⟨42, 49, []⟩ []) (.seq (.reg [xS 50 (xM 0), xS 51 (xM 11), xS 52 (xM 1), xS 53 (xN 52 9), xS 54 (xO .add 51 53), xS 55 (.slice 9 (xT 50) (some (xT 54)) none none), xS 0 (xP 55)] ⟨50, 55, []⟩ []) (.reg [xS 56 (xM 10), xS 57 (xJ .add 56 1), xS 10 (xP 57)] ⟨56, 57, []⟩ []))))))))) (.seq (.reg [xS 58 (xM 9), xS 59 (xM 10), xS 60 (xM 0), xS 61 (xA 22 58 59), x0 (xW 9 61 60)] ⟨58, 61, []⟩ []) (.seq (.reg [xS 62 (xM 9), xS 63 (xM 10), xS 64 (xJ .add 63 1), xS 65 (.slice 22 (xT 62) none (some (xT 64)) none), xS 8 (xP 65)] ⟨62, 65, []⟩ []) .ret))))))))))
theorem z159 : FnF Tryz.prog Tryz.f159 66 c159 [.tmp 8] := ⟨by kernel_rfl, by kernel_rfl, by kernel_rfl, by kernel_rfl, by decide⟩
end Go.Av
