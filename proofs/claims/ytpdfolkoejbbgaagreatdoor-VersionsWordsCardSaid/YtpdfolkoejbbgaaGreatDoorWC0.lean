/- Part of a proof. -/
import Derived.Test.YtpdfolkoejbbgaaGreatDoorWF8
import Derived.Test.YtpdfolkoejbbgaaGreatDoorProg
set_option linter.unusedVariables false
set_option linter.unusedSimpArgs false
set_option maxHeartbeats 64000000
namespace Go.Av
open Go Go.RowKit Go.Proofs
def xS (d : Nat) (o : Op) : SOp := ⟨some d, o, none⟩
def xG (d : Nat) (o : Op) (g : Nat) (b : Bool) : SOp := ⟨some d, o, some (g, b)⟩
def x0 (o : Op) : SOp := ⟨none, o, none⟩
def xT (n : Nat) : Operand := .tmp n
def xI (n : Int) : Operand := .const (.int .i64 n)
def xL (t n : Nat) : Op := .load t (.tmp n)
def xM (n : Nat) : Op := .move (.tmp n)
def xF (t n f : Nat) : Op := .fieldAddr t (.tmp n) f
def xA (t n i : Nat) : Op := .indexAddr t (.tmp n) (.tmp i)
def xW (t n v : Nat) : Op := .store t (.tmp n) (.tmp v)
def xP (n : Nat) : Op := .assign (.tmp n)
def xB (b : Bool) : Operand := .const (.bool b)
def xC (f : Nat) (a : Array Operand) (t : Array TypeId) : Op := .call ⟨.value (.func f), a, t⟩
def xN (n t : Nat) : Op := .call ⟨.builtin .len, #[.tmp n], #[t]⟩
def xE (n i : Nat) : Op := .extract (.tmp n) i
def xU (n : Nat) : Op := .unOp .not 4 (.tmp n)
def xO (o : BinOp) (n m : Nat) : Op := .binOp o 3 (.tmp n) (.tmp m) 3
def xJ (o : BinOp) (n : Nat) (m : Int) : Op := .binOp o 3 (.tmp n) (.const (.int .i64 m)) 3
def xK (c n : Nat) (b : Bool) : Op := .pick (.tmp c) (.tmp n) (.const (.bool b))
def xQ (c n : Nat) (b : Bool) : Op := .pick (.tmp c) (.const (.bool b)) (.tmp n)
def xZ (n : Int) : Op := .assign (.const (.int .i64 n))
def xY (b : Bool) : Op := .assign (.const (.bool b))
attribute [go_sem] xS xG x0 xT xI xL xM xF xA xW xP xB xC xN xE xU xO xJ xK xQ xZ xY

/-- What is known of a function, but for its text. -/
structure FnR (P : Program) (f : Func) (m : Nat) (rs : List ResultVar) : Prop where
  b : f.body = some (f.body.getD .skip) := by kernel_rfl
  d : textOk P m (f.body.getD .skip) = true := by kernel_rfl
  r : f.results.toList = rs := by kernel_rfl
  n : f.name ≠ "runtime.NumGoroutine" := by decide
theorem impl_w {P : Program} {f : FuncId} {fn : Func} {rl : List ResultVar} (hf : P.funcs[f]? = some fn) {N : Nat} (z : FnR P fn N rl) (hN0 : fn.ntmps = N) {args : List SV} {r : RV} (hN : args.length ≤ N) (h : awp P (slim (fn.body.getD .skip)) (endsIn P rl r) (slotsOf 0 args)) : Impl P f args r :=
  impl_intro hf z.b rfl z.r z.n hN0 z.d hN fun _ => h
/-- What is known of a function's text. -/
structure FnF (P : Program) (f : Func) (m : Nat) (c : AC) (rs : List ResultVar) : Prop where
  b : f.body = some (f.body.getD .skip)
  e : slim (f.body.getD .skip) = c
  d : textOk P m (f.body.getD .skip) = true
  r : f.results.toList = rs
  n : f.name ≠ "runtime.NumGoroutine"
theorem impl_z {P : Program} {f : FuncId} {fn : Func} {ac : AC} {rl : List ResultVar} (hf : P.funcs[f]? = some fn) {N : Nat} (z : FnF P fn N ac rl) (hN0 : fn.ntmps = N) {args : List SV} {r : RV} (hN : args.length ≤ N) (h : awp P ac (endsIn P rl r) (slotsOf 0 args)) : Impl P f args r :=
  impl_intro hf z.b z.e z.r z.n hN0 z.d hN fun _ => h
theorem z5 : FnR Tryz.prog Tryz.f5 94 [.tmp 6] := {}
theorem z8 : FnR Tryz.prog Tryz.f8 142 [.tmp 4] := {}
theorem z10 : FnR Tryz.prog Tryz.f10 29 [.tmp 2] := {}
theorem z16 : FnR Tryz.prog Tryz.f16 71 [.tmp 0] := {}
theorem z17 : FnR Tryz.prog Tryz.f17 16 [.tmp 2] := {}
theorem z18 : FnR Tryz.prog Tryz.f18 223 [.cell 4 41, .tmp 5] := {}
theorem z21 : FnR Tryz.prog Tryz.f21 4 [.cell 2 45] := {}
theorem z22 : FnR Tryz.prog Tryz.f22 61 [.tmp 6, .tmp 7] := {}
theorem z23 : FnR Tryz.prog Tryz.f23 62 [.tmp 6, .tmp 7] := {}
theorem z24 : FnR Tryz.prog Tryz.f24 35 [.cell 4 52, .tmp 5] := {}
theorem z25 : FnR Tryz.prog Tryz.f25 35 [.cell 4 52, .tmp 5] := {}
theorem z28 : FnR Tryz.prog Tryz.f28 29 [.tmp 4] := {}
theorem z29 : FnR Tryz.prog Tryz.f29 38 [.tmp 2] := {}
theorem z30 : FnR Tryz.prog Tryz.f30 78 [.tmp 4, .tmp 5] := {}
theorem z31 : FnR Tryz.prog Tryz.f31 30 [.tmp 6, .tmp 7] := {}
theorem z32 : FnR Tryz.prog Tryz.f32 29 [.tmp 6] := {}
theorem z38 : FnR Tryz.prog Tryz.f38 42 [.tmp 2] := {}
def c40 : AC :=
 .seq (.reg [xS 2 (.alloc 27)] ⟨1, 0, []⟩ []) (.seq (.reg [xS 4 (.buildSlice 22 2 #[(0, .const (.string ⟨#[65]⟩)), (1, .const (.string ⟨#[66]⟩))]), xS 5 (.build 71 #[(0, .const (.string ⟨#[120]⟩))]), xS 6 (.buildSlice 23 1 #[(0, xT 5)]), xS 7 (.build 52 #[(1, .const (.int .i64 1))]), xS 8 (.build 65 #[(1, xT 7), (2, .const (.int .i64 1))]), xS 9 (.buildSlice 24 1 #[(0, xT 8)]), xS 10 (.build 27 #[(0, .const (.string ⟨#[80]⟩)), (1, xT 4), (2, xT 6), (3, .const (.int .i64 2)), (5, .const (.int .i64 1)), (6, xT 9)]), xS 3 (.alloc 27), x0 (xW 27 3 10)] ⟨4, 10, []⟩ []) (.seq (.seq (.reg [xS 11 (xM 0)] ⟨1, 0, []⟩ []) (.cond (.tmp 11) (.seq (.reg [xS 12 (xF 27 3 2), xS 13 (xL 23 12), xS 14 (.build 71 #[(0, .const (.string ⟨#[121]⟩))]), xS 15 (.buildSlice 23 1 #[(0, xT 14)]), xS 16 (.call ⟨.builtin .append, #[xT 13, xT 15], #[23, 23]⟩), xS 17 (xF 27 3 2), x0 (xW 23 17 16)] ⟨12, 17, []⟩ []) (.reg [xS 18 (xF 27 3 6), xS 19 (xL 24 18), xS 20 (.build 52 #[(1, .const (.int .i64 1)), (2, .const (.int .i64 1))]), xS 21 (.build 65 #[(1, xT 20), (2, .const (.int .i64 1))]), xS 22 (.buildSlice 24 1 #[(0, xT 21)]), xS 23 (.call ⟨.builtin .append, #[xT 19, xT 22], #[24, 24]⟩), xS 24 (xF 27 3 6), x0 (xW 24 24 23)] ⟨18, 24, []⟩ [])) .skip)) (.seq (.reg [xS 25 (xL 27 3), x0 (xW 27 2 25)] ⟨25, 25, []⟩ []) .ret)))
theorem z40 : FnF Tryz.prog Tryz.f40 26 c40 [.cell 2 27] := ⟨by kernel_rfl, by kernel_rfl, by kernel_rfl, by kernel_rfl, by decide⟩
theorem z41 : FnR Tryz.prog Tryz.f41 20 [.tmp 2] := {}
theorem z42 : FnR Tryz.prog Tryz.f42 26 [.tmp 4] := {}
theorem z43 : FnR Tryz.prog Tryz.f43 49 [.cell 2 27] := {}
theorem z44 : FnR Tryz.prog Tryz.f44 33 [.tmp 2] := {}
theorem z45 : FnR Tryz.prog Tryz.f45 9 [.tmp 4] := {}
theorem z46 : FnR Tryz.prog Tryz.f46 34 [.tmp 8] := {}
theorem z47 : FnR Tryz.prog Tryz.f47 52 [.tmp 6] := {}
theorem z48 : FnR Tryz.prog Tryz.f48 9 [.tmp 4] := {}
theorem z49 : FnR Tryz.prog Tryz.f49 10 [.tmp 3] := {}
theorem z53 : FnR Tryz.prog Tryz.f53 69 [.tmp 6] := {}
theorem z54 : FnR Tryz.prog Tryz.f54 19 [.tmp 4] := {}
theorem z57 : FnR Tryz.prog Tryz.f57 19 [.tmp 4] := {}
theorem z63 : FnR Tryz.prog Tryz.f63 9 [] := {}
theorem z64 : FnR Tryz.prog Tryz.f64 32 [.tmp 5] := {}
theorem z65 : FnR Tryz.prog Tryz.f65 18 [.tmp 2] := {}
theorem z66 : FnR Tryz.prog Tryz.f66 20 [.tmp 4] := {}
theorem z67 : FnR Tryz.prog Tryz.f67 41 [.tmp 2] := {}
theorem z68 : FnR Tryz.prog Tryz.f68 96 [.tmp 2] := {}
theorem z69 : FnR Tryz.prog Tryz.f69 15 [.tmp 2] := {}
theorem z70 : FnR Tryz.prog Tryz.f70 98 [.tmp 2] := {}
theorem z71 : FnR Tryz.prog Tryz.f71 64 [.tmp 2] := {}
theorem z72 : FnR Tryz.prog Tryz.f72 9 [.tmp 4] := {}
theorem z73 : FnR Tryz.prog Tryz.f73 67 [.tmp 6] := {}
theorem z74 : FnR Tryz.prog Tryz.f74 8 [.tmp 2] := {}
theorem z80 : FnR Tryz.prog Tryz.f80 8 [.tmp 2] := {}
theorem z81 : FnR Tryz.prog Tryz.f81 8 [.tmp 2] := {}
theorem z82 : FnR Tryz.prog Tryz.f82 8 [.tmp 2] := {}
theorem z83 : FnR Tryz.prog Tryz.f83 8 [.tmp 2] := {}
theorem z84 : FnR Tryz.prog Tryz.f84 8 [.tmp 2] := {}
theorem z85 : FnR Tryz.prog Tryz.f85 8 [.tmp 2] := {}
theorem z86 : FnR Tryz.prog Tryz.f86 19 [.tmp 4] := {}
theorem z87 : FnR Tryz.prog Tryz.f87 8 [.tmp 3] := {}
theorem z88 : FnR Tryz.prog Tryz.f88 26 [.tmp 4] := {}
theorem z89 : FnR Tryz.prog Tryz.f89 32 [.tmp 6] := {}
theorem z90 : FnR Tryz.prog Tryz.f90 34 [.tmp 6] := {}
theorem z91 : FnR Tryz.prog Tryz.f91 12 [.cell 4 129] := {}
theorem z92 : FnR Tryz.prog Tryz.f92 32 [.tmp 6] := {}
theorem z93 : FnR Tryz.prog Tryz.f93 27 [.tmp 6] := {}
theorem z94 : FnR Tryz.prog Tryz.f94 19 [.tmp 4] := {}
theorem z103 : FnR Tryz.prog Tryz.f103 63 [] := {}
theorem z104 : FnR Tryz.prog Tryz.f104 6 [.tmp 2] := {}
def c105 : AC :=
 .seq (.reg [xS 2 (xY false)] ⟨1, 0, []⟩ []) (.seq (.reg [xS 4 (.build 162 #[(0, .const (.string ⟨#[97, 103, 97, 105, 110]⟩)), (1, .const (.string ⟨#[97, 110, 100]⟩)), (2, .const (.string ⟨#[97, 115]⟩)), (3, .const (.string ⟨#[97, 116]⟩)), (4, .const (.string ⟨#[99, 97, 108, 108]⟩)), (5, .const (.string ⟨#[99, 104, 111, 105, 99, 101]⟩)), (6, .const (.string ⟨#[101, 108, 115, 101]⟩)), (7, .const (.string ⟨#[102, 114, 111, 109]⟩)), (8, .const (.string ⟨#[105, 102]⟩)), (9, .const (.string ⟨#[105, 110, 116]⟩)), (10, .const (.string ⟨#[108, 101, 110]⟩)), (11, .const (.string ⟨#[108, 111, 111, 112]⟩)), (12, .const (.string ⟨#[109, 101, 115, 115, 97, 103, 101]⟩)), (13, .const (.string ⟨#[111, 102]⟩)), (14, .const (.string ⟨#[111, 102, 102, 101, 114]⟩)), (15, .const (.string ⟨#[111, 110]⟩)), (16, .const (.string ⟨#[111, 114]⟩)), (17, .const (.string ⟨#[112, 97, 114]⟩)), (18, .const (.string ⟨#[112, 108, 97, 121, 115]⟩)), (19, .const (.string ⟨#[112, 114, 111, 116, 111, 99, 111, 108]⟩)), (20, .const (.string ⟨#[115, 101, 114, 118, 105, 99, 101]⟩)), (21, .const (.string ⟨#[116, 101, 120, 116]⟩)), (22, .const (.string ⟨#[116, 105, 109, 101, 115]⟩)), (23, .const (.string ⟨#[116, 111]⟩)), (24, .const (.string ⟨#[118, 97, 114]⟩)), (25, .const (.string ⟨#[119, 104, 101, 114, 101]⟩)), (26, .const (.string ⟨#[119, 104, 105, 108, 101]⟩)), (27, .const (.string ⟨#[119, 105, 116, 104, 105, 110]⟩))]), xS 3 (.alloc 162), x0 (xW 162 3 4)] ⟨4, 4, []⟩ []) (.seq (.reg [xS 5 (xM 0), xS 6 (xC 121 #[xT 5] #[9]), xS 7 (xM 6), xG 8 (.slice 162 (xT 3) none none none) 7 true, xG 9 (xM 0) 7 true, xG 10 (xC 106 #[xT 8, xT 9] #[22, 9]) 7 true, xG 11 (xU 10) 7 true, xS 12 (xK 7 11 false), xS 2 (xP 12)] ⟨5, 12, []⟩ []) .ret))
theorem z105 : FnF Tryz.prog Tryz.f105 13 c105 [.tmp 2] := ⟨by kernel_rfl, by kernel_rfl, by kernel_rfl, by kernel_rfl, by decide⟩
theorem z106 : FnR Tryz.prog Tryz.f106 9 [.tmp 4] := {}
theorem z107 : FnR Tryz.prog Tryz.f107 24 [.tmp 4, .tmp 5] := {}
theorem z108 : FnR Tryz.prog Tryz.f108 19 [.tmp 4] := {}
def c109 : AC :=
 .seq (.reg [xS 4 (.assign (.const (.slice none 0 0)))] ⟨1, 0, []⟩ []) (.seq (.seq (.reg [xS 9 (xM 1), xS 10 (xJ .lss 9 0)] ⟨9, 9, []⟩ []) (.cond (.tmp 10) (.reg [xS 11 (.makeInterface 9 (.const (.string ⟨#[99, 97, 110, 110, 111, 116, 32, 98, 101, 32, 110, 101, 103, 97, 116, 105, 118, 101]⟩))), x0 (.panic (xT 11))] ⟨11, 11, []⟩ []) .skip)) (.seq (.reg [xS 13 (xM 0), xS 14 (xN 13 37), xS 15 (.convert 3 164 (xT 14)), xS 16 (xM 1), xS 17 (.convert 3 164 (xT 16)), xS 18 (xC 125 #[xT 15, xT 17] #[164, 164]), xS 12 (xM 18), xS 19 (xE 12 0), xS 20 (xE 12 1), xS 5 (xP 19), xS 6 (xP 20)] ⟨12, 20, []⟩ []) (.seq (.seq (.reg [xS 21 (xM 5), xS 22 (.binOp .gtr 164 (xT 21) (.const (.int .u64 0)) 164), xS 23 (xM 22), xG 24 (xM 6) 23 false, xG 25 (.binOp .gtr 164 (xT 24) (.const (.int .u64 9223372036854775807)) 164) 23 false, xS 26 (xQ 23 25 true)] ⟨21, 25, []⟩ []) (.cond (.tmp 26) (.reg [xS 27 (.makeInterface 9 (.const (.string ⟨#[116, 104, 101, 32, 114, 101, 115, 117, 108, 116, 32, 111, 102, 32, 40, 108, 101, 110, 40, 120, 41, 32, 42, 32, 99, 111, 117, 110, 116, 41, 32, 111, 118, 101, 114, 102, 108, 111, 119, 115]⟩))), x0 (.panic (xT 27))] ⟨27, 27, []⟩ []) .skip)) (.seq (.reg [xS 28 (xM 6), xS 29 (.convert 164 3 (xT 28)), xS 30 (.makeSlice 37 (xT 29) (xT 29)), xS 7 (xP 30)] ⟨28, 30, []⟩ []) (.seq (.reg [xS 31 (xM 7), xS 32 (xM 0), xS 33 (.call ⟨.builtin .copy, #[xT 31, xT 32], #[37, 37]⟩), xS 8 (xP 33)] ⟨31, 33, []⟩ []) (.seq (.block 0 (.loop (.seq (.seq (.reg [xS 34 (xM 8), xS 35 (xM 7), xS 36 (xN 35 37), xS 37 (xO .lss 34 36)] ⟨34, 36, []⟩ []) (.cond (.tmp 37) .skip (.exit 0))) (.block 1 (.drw [⟨xS 38 (xM 8), []⟩, ⟨xS 39 (xM 7), []⟩, ⟨xS 40 (xM 8), []⟩, ⟨xS 41 (.slice 37 (xT 39) (some (xT 40)) none none), [39, 40]⟩, ⟨xS 42 (xM 7), []⟩, ⟨xS 43 (xM 8), []⟩, ⟨xS 44 (.slice 37 (xT 42) none (some (xT 43)) none), [42, 43]⟩] [⟨xS 45 (.call ⟨.builtin .copy, #[xT 41, xT 44], #[37, 37]⟩), [41, 39, 40, 44, 42, 43], [true, false, false, false, false, false, false]⟩, ⟨xS 46 (xO .add 38 45), [38], []⟩, ⟨xS 8 (xP 46), [], []⟩] ⟨38, 44, []⟩ ⟨38, 46, []⟩ []))))) (.seq (.reg [xS 47 (xM 7), xS 4 (xP 47)] ⟨47, 47, []⟩ []) .ret)))))))
theorem z109 : FnF Tryz.prog Tryz.f109 48 c109 [.tmp 4] := ⟨by kernel_rfl, by kernel_rfl, by kernel_rfl, by kernel_rfl, by decide⟩
theorem z119 : FnR Tryz.prog Tryz.f119 53 [] := {}
theorem z120 : FnR Tryz.prog Tryz.f120 220 [] := {}
def c121 : AC :=
 .seq (.reg [xS 2 (xY false)] ⟨1, 0, []⟩ []) (.seq (.seq (.reg [xS 4 (xM 0), xS 5 (.binOp .eql 9 (xT 4) (.const (.string ⟨#[]⟩)) 9), xS 6 (xM 5), xG 7 (xM 0) 6 false, xG 8 (xN 7 9) 6 false, xG 9 (xJ .gtr 8 16) 6 false, xS 10 (xQ 6 9 true), xS 11 (xM 10), xG 12 (xM 0) 11 false, xG 13 (.index 9 (xT 12) (xI 0)) 11 false, xG 14 (xC 131 #[xT 13] #[5]) 11 false, xG 15 (xU 14) 11 false, xS 16 (xQ 11 15 true)] ⟨4, 15, []⟩ []) (.cond (.tmp 16) (.seq (.reg [xS 2 (xY false)] ⟨1, 0, []⟩ []) .ret) .skip)) (.seq (.seq (.reg [xS 17 (xM 0), xS 18 (xN 17 9), xS 19 (.move (xI 0))] ⟨17, 17, []⟩ []) (.block 0 (.loop (.seq (.reg [xS 20 (xO .lss 19 18)] ⟨1, 0, []⟩ []) (.seq (.cond (.tmp 20) .skip (.exit 0)) (.seq (.block 1 (.seq (.reg [xS 21 (xM 19), xS 3 (xP 21)] ⟨21, 21, []⟩ []) (.seq (.reg [xS 22 (xM 0), xS 23 (xM 3), xS 24 (.index 9 (xT 22) (xT 23)), xS 25 (xC 132 #[xT 24] #[5]), xS 26 (xU 25)] ⟨22, 25, []⟩ []) (.cond (.tmp 26) (.seq (.reg [xS 2 (xY false)] ⟨1, 0, []⟩ []) .ret) .skip)))) (.reg [xS 27 (xJ .add 19 1), xS 19 (xM 27)] ⟨27, 27, []⟩ []))))))) (.seq (.reg [xS 2 (xY true)] ⟨1, 0, []⟩ []) .ret)))
theorem z121 : FnF Tryz.prog Tryz.f121 28 c121 [.tmp 2] := ⟨by kernel_rfl, by kernel_rfl, by kernel_rfl, by kernel_rfl, by decide⟩
theorem z122 : FnR Tryz.prog Tryz.f122 19 [.tmp 4] := {}
theorem z123 : FnR Tryz.prog Tryz.f123 85 [.tmp 2] := {}
theorem z124 : FnR Tryz.prog Tryz.f124 65 [.tmp 2] := {}
theorem z125 : FnR Tryz.prog Tryz.f125 30 [.tmp 4, .tmp 5] := {}
theorem z130 : FnR Tryz.prog Tryz.f130 58 [] := {}
theorem z131 : FnR Tryz.prog Tryz.f131 17 [.tmp 2] := {}
theorem z132 : FnR Tryz.prog Tryz.f132 13 [.tmp 2] := {}
theorem z133 : FnR Tryz.prog Tryz.f133 18 [.tmp 2] := {}
def c134 : AC :=
 .seq (.reg [xS 2 (xY false)] ⟨1, 0, []⟩ []) (.seq (.reg [xS 3 (xM 0), xS 4 (xN 3 9), xS 5 (xJ .leq 4 50), xS 6 (xM 5), xG 7 (xM 0) 6 true, xG 8 (xC 148 #[xT 7, .const (.string ⟨#[46]⟩)] #[9, 9]) 6 true, xG 9 (xC 147 #[xT 8, .func 149] #[22, 142]) 6 true, xG 10 (xU 9) 6 true, xS 11 (xK 6 10 false), xS 2 (xP 11)] ⟨3, 11, []⟩ []) .ret)
theorem z134 : FnF Tryz.prog Tryz.f134 12 c134 [.tmp 2] := ⟨by kernel_rfl, by kernel_rfl, by kernel_rfl, by kernel_rfl, by decide⟩
theorem z135 : FnR Tryz.prog Tryz.f135 9 [.tmp 4] := {}
theorem z136 : FnR Tryz.prog Tryz.f136 9 [.tmp 3] := {}
theorem z137 : FnR Tryz.prog Tryz.f137 39 [.tmp 2] := {}
theorem z138 : FnR Tryz.prog Tryz.f138 9 [.tmp 4] := {}
theorem z139 : FnR Tryz.prog Tryz.f139 9 [.tmp 3] := {}
theorem z140 : FnR Tryz.prog Tryz.f140 85 [.tmp 4] := {}
theorem z142 : FnR Tryz.prog Tryz.f142 51 [.tmp 4, .tmp 5] := {}
theorem z145 : FnR Tryz.prog Tryz.f145 38 [] := {}
theorem z146 : FnR Tryz.prog Tryz.f146 9 [.tmp 2] := {}
theorem z147 : FnR Tryz.prog Tryz.f147 9 [.tmp 4] := {}
theorem z148 : FnR Tryz.prog Tryz.f148 8 [.tmp 4] := {}
theorem z149 : FnR Tryz.prog Tryz.f149 6 [.tmp 2] := {}
theorem z150 : FnR Tryz.prog Tryz.f150 19 [.tmp 4] := {}
theorem z151 : FnR Tryz.prog Tryz.f151 19 [.tmp 4] := {}
def c152 : AC :=
 .seq (.reg [xS 8 (.assign (.const (.slice none 0 0)))] ⟨1, 0, []⟩ []) (.seq (.seq (.reg [xS 12 (xM 3), xS 13 (xJ .eql 12 0)] ⟨12, 12, []⟩ []) (.cond (.tmp 13) (.seq (.reg [xS 8 (.assign (.const (.slice none 0 0)))] ⟨1, 0, []⟩ []) .ret) .skip)) (.seq (.seq (.reg [xS 14 (xM 1), xS 15 (.binOp .eql 9 (xT 14) (.const (.string ⟨#[]⟩)) 9)] ⟨14, 14, []⟩ []) (.cond (.tmp 15) (.seq (.reg [xS 16 (xM 0), xS 17 (xM 3), xS 18 (xC 153 #[xT 16, xT 17] #[9, 3]), xS 8 (xP 18)] ⟨16, 18, []⟩ []) .ret) .skip)) (.seq (.seq (.reg [xS 19 (xM 3), xS 20 (xJ .lss 19 0)] ⟨19, 19, []⟩ []) (.cond (.tmp 20) (.reg [xS 21 (xM 0), xS 22 (xM 1), xS 23 (xC 154 #[xT 21, xT 22] #[9, 9]), xS 24 (xJ .add 23 1), xS 3 (xP 24)] ⟨21, 24, []⟩ []) .skip)) (.seq (.reg [xS 25 (xM 3), xS 26 (xM 0), xS 27 (xN 26 9), xS 28 (xJ .add 27 1), xS 29 (.call ⟨.builtin .min, #[xT 25, xT 28], #[3, 3]⟩), xS 3 (xP 29)] ⟨25, 29, []⟩ []) (.seq (.reg [xS 30 (xM 3), xS 31 (.makeSlice 22 (xT 30) (xT 30)), xS 9 (xP 31)] ⟨30, 31, []⟩ []) (.seq (.reg [xS 32 (xM 3), xS 33 (xJ .sub 32 1), xS 3 (xP 33)] ⟨32, 33, []⟩ []) (.seq (.reg [xS 10 (xZ 0)] ⟨1, 0, []⟩ []) (.seq (.block 0 (.loop (.seq (.seq (.reg [xS 34 (xM 10), xS 35 (xM 3), xS 36 (xO .lss 34 35)] ⟨34, 35, []⟩ []) (.cond (.tmp 36) .skip (.exit 0))) (.block 1 (.seq (.reg [xS 37 (xM 0), xS 38 (xM 1), xS 39 (xC 155 #[xT 37, xT 38] #[9, 9]), xS 11 (xP 39)] ⟨37, 39, []⟩ []) (.seq (.seq (.reg [xS 40 (xM 11), xS 41 (xJ .lss 40 0)] ⟨40, 40, []⟩ []) (.cond (.tmp 41) (.exit 0) .skip)) (.seq (.reg [xS 42 (xM 9), xS 43 (xM 10), xS 44 (xM 0), xS 45 (xM 11), xS 46 (xM 2), xS 47 (xO .add 45 46), xS 48 (.slice 9 (xT 44) none (some (xT 47)) none), xS 49 (xA 22 42 43), x0 (xW 9 49 48)] ⟨42, 49, []⟩ []) (.seq (.reg [xS 50 (xM 0), xS 51 (xM 11), xS 52 (xM 1), xS 53 (xN 52 9), xS 54 (xO .add 51 53), xS 55 (.slice 9 (xT 50) (some (xT 54)) none none), xS 0 (xP 55)] ⟨50, 55, []⟩ []) (.reg [xS 56 (xM 10), xS 57 (xJ .add 56 1), xS 10 (xP 57)] ⟨56, 57, []⟩ []))))))))) (.seq (.reg [xS 58 (xM 9), xS 59 (xM 10), xS 60 (xM 0), xS 61 (xA 22 58 59), x0 (xW 9 61 60)] ⟨58, 61, []⟩ []) (.seq (.reg [xS 62 (xM 9), xS 63 (xM 10), xS 64 (xJ .add 63 1), xS 65 (.slice 22 (xT 62) none (some (xT 64)) none), xS 8 (xP 65)] ⟨62, 65, []⟩ []) .ret))))))))))
theorem z152 : FnF Tryz.prog Tryz.f152 66 c152 [.tmp 8] := ⟨by kernel_rfl, by kernel_rfl, by kernel_rfl, by kernel_rfl, by decide⟩
end Go.Av
