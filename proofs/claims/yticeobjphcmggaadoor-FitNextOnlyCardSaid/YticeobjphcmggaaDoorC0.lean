/- Part of a proof. -/
import Derived.Test.YticeobjphcmggaaDoorAvR
import Derived.Test.YticeobjphcmggaaDoorProg
set_option linter.unusedVariables false
set_option linter.unusedSimpArgs false
set_option maxHeartbeats 64000000
namespace Go.Av
open Go Go.RowKit Go.Proofs
def xS (d : Nat) (o : Op) : SOp := ⟨some d, o, none⟩
def xG (d : Nat) (o : Op) (g : Nat) (b : Bool) : SOp := ⟨some d, o, some (g, b)⟩
def x0 (o : Op) : SOp := ⟨none, o, none⟩
def xT (n : Nat) : Operand := .tmp n
def xI (n : Int) : Operand := .const (.int .i64 n)
def xL (t n : Nat) : Op := .load t (.tmp n)
def xM (n : Nat) : Op := .move (.tmp n)
def xF (t n f : Nat) : Op := .fieldAddr t (.tmp n) f
def xA (t n i : Nat) : Op := .indexAddr t (.tmp n) (.tmp i)
def xW (t n v : Nat) : Op := .store t (.tmp n) (.tmp v)
def xP (n : Nat) : Op := .assign (.tmp n)
def xB (b : Bool) : Operand := .const (.bool b)
def xC (f : Nat) (a : Array Operand) (t : Array TypeId) : Op := .call ⟨.value (.func f), a, t⟩
def xN (n t : Nat) : Op := .call ⟨.builtin .len, #[.tmp n], #[t]⟩
def xE (n i : Nat) : Op := .extract (.tmp n) i
def xU (n : Nat) : Op := .unOp .not 4 (.tmp n)
def xO (o : BinOp) (n m : Nat) : Op := .binOp o 3 (.tmp n) (.tmp m) 3
def xJ (o : BinOp) (n : Nat) (m : Int) : Op := .binOp o 3 (.tmp n) (.const (.int .i64 m)) 3
def xK (c n : Nat) (b : Bool) : Op := .pick (.tmp c) (.tmp n) (.const (.bool b))
def xQ (c n : Nat) (b : Bool) : Op := .pick (.tmp c) (.const (.bool b)) (.tmp n)
def xZ (n : Int) : Op := .assign (.const (.int .i64 n))
def xY (b : Bool) : Op := .assign (.const (.bool b))
attribute [go_sem] xS xG x0 xT xI xL xM xF xA xW xP xB xC xN xE xU xO xJ xK xQ xZ xY

/-- What is known of a function's text. -/
structure FnF (P : Program) (f : Func) (m : Nat) (c : AC) (rs : List ResultVar) : Prop where
  b : f.body = some (f.body.getD .skip)
  e : slim (f.body.getD .skip) = c
  d : textOk P m (f.body.getD .skip) = true
  r : f.results.toList = rs
  n : f.name ≠ "runtime.NumGoroutine"
theorem impl_z {P : Program} {f : FuncId} {fn : Func} {ac : AC} {rl : List ResultVar} (hf : P.funcs[f]? = some fn) {N : Nat} (z : FnF P fn N ac rl) (hN0 : fn.ntmps = N) {args : List SV} {r : RV} (hN : args.length ≤ N) (h : awp P ac (endsIn P rl r) (slotsOf 0 args)) : Impl P f args r :=
  impl_intro hf z.b z.e z.r z.n hN0 z.d hN fun _ => h
instance z3 : FnI Tryd.prog 3 Tryd.f3 40 [.tmp 6] := {f := Tryd.func3, t := Tryd.ntmps3}
instance z4 : FnI Tryd.prog 4 Tryd.f4 110 [.tmp 6] := {f := Tryd.func4, t := Tryd.ntmps4}
def c5 : AC :=
 .seq (.reg [xS 0 (xY false)] ⟨1, 0, []⟩ []) (.seq (.reg [xS 7 (.buildSlice 22 3 #[(0, .const (.string ⟨#[65]⟩)), (1, .const (.string ⟨#[66]⟩)), (2, .const (.string ⟨#[67]⟩))]), xS 8 (.build 51 #[(0, .const (.string ⟨#[120]⟩))]), xS 9 (.build 51 #[(0, .const (.string ⟨#[121]⟩))]), xS 10 (.buildSlice 23 2 #[(0, xT 8), (1, xT 9)]), xS 11 (.build 53 #[(1, .const (.int .i64 1))]), xS 12 (.build 55 #[(1, xT 11), (2, .const (.int .i64 1))]), xS 13 (.build 53 #[(1, .const (.int .i64 2)), (2, .const (.int .i64 1))]), xS 14 (.build 55 #[(0, .const (.int .i64 1)), (1, xT 13), (2, .const (.int .i64 2))]), xS 15 (.buildSlice 24 2 #[(0, xT 12), (1, xT 14)]), xS 16 (.build 27 #[(0, .const (.string ⟨#[80]⟩)), (1, xT 7), (2, xT 10), (3, .const (.int .i64 3)), (5, .const (.int .i64 2)), (6, xT 15)]), xS 1 (.alloc 27), x0 (xW 27 1 16)] ⟨7, 16, []⟩ []) (.seq (.reg [xS 17 (.build 40 #[(1, xB true), (2, .const (.int .i64 1))]), xS 18 (.buildSlice 41 1 #[(0, xT 17)]), xS 19 (.build 40 #[(0, .const (.int .i64 2)), (3, .const (.int .i64 1))]), xS 20 (.buildSlice 41 1 #[(0, xT 19)]), xS 21 (.buildSlice 28 3 #[(0, xT 18), (1, .const (.slice none 0 0)), (2, xT 20)]), xS 2 (xP 21)] ⟨17, 21, []⟩ []) (.seq (.reg [xS 23 (xL 27 1), xS 24 (xM 2), xS 25 (xC 7 #[xT 23, xT 24] #[27, 28]), xS 22 (xM 25), xS 26 (xE 22 0), xS 27 (xE 22 1), xS 3 (xP 26), xS 4 (xP 27)] ⟨22, 27, []⟩ []) (.seq (.reg [xS 29 (xL 27 1), xS 30 (xM 2), xS 31 (xC 9 #[xT 29, xT 30, .const (.int .i64 0)] #[27, 28, 3]), xS 28 (xM 31), xS 32 (xE 28 0), xS 33 (xE 28 1), xS 5 (xP 32), xS 6 (xP 33)] ⟨28, 33, []⟩ []) (.seq (.reg [xS 34 (xM 4), xS 35 (.binOp .eql 33 (xT 34) (xI 0) 33), xS 36 (xM 35), xG 37 (xM 3) 36 true, xG 38 (xN 37 32) 36 true, xG 39 (xJ .eql 38 2) 36 true, xS 40 (xK 36 39 false), xS 41 (xM 40), xG 42 (xM 6) 41 true, xG 43 (.binOp .eql 33 (xT 42) (xI 0) 33) 41 true, xS 44 (xK 41 43 false), xS 45 (xM 44), xG 46 (xM 5) 45 true, xG 47 (xN 46 41) 45 true, xG 48 (xJ .eql 47 1) 45 true, xS 49 (xK 45 48 false), xS 50 (xM 49), xG 51 (xM 5) 50 true, xG 52 (.indexAddr 41 (xT 51) (xI 0)) 50 true, xG 53 (xF 40 52 1) 50 true, xG 54 (xL 4 53) 50 true, xS 55 (xK 50 54 false), xS 56 (xM 55), xG 57 (xM 5) 56 true, xG 58 (.indexAddr 41 (xT 57) (xI 0)) 56 true, xG 59 (xF 40 58 2) 56 true, xG 60 (xL 3 59) 56 true, xG 61 (xJ .eql 60 2) 56 true, xS 62 (xK 56 61 false), xS 63 (xM 62), xG 64 (xM 5) 63 true, xG 65 (.indexAddr 41 (xT 64) (xI 0)) 63 true, xG 66 (xF 40 65 3) 63 true, xG 67 (xL 3 66) 63 true, xG 68 (xJ .eql 67 1) 63 true, xS 69 (xK 63 68 false), xS 70 (xM 69), xG 71 (xL 27 1) 70 true, xG 72 (xM 2) 70 true, xG 73 (xC 10 #[xT 71, xT 72] #[27, 28]) 70 true, xG 74 (.binOp .eql 33 (xT 73) (xI 23) 33) 70 true, xS 75 (xK 70 74 false), xS 0 (xP 75)] ⟨34, 75, []⟩ []) .ret)))))
theorem z5 : FnF Tryd.prog Tryd.f5 76 c5 [.tmp 0] := ⟨by kernel_rfl, by kernel_rfl, by kernel_rfl, by kernel_rfl, by decide⟩
instance z6 : FnI Tryd.prog 6 Tryd.f6 44 [.tmp 6] := {f := Tryd.func6, t := Tryd.ntmps6}
instance z7 : FnI Tryd.prog 7 Tryd.f7 35 [.tmp 4, .tmp 5] := {f := Tryd.func7, t := Tryd.ntmps7}
instance z8 : FnI Tryd.prog 8 Tryd.f8 40 [.tmp 4] := {f := Tryd.func8, t := Tryd.ntmps8}
instance z9 : FnI Tryd.prog 9 Tryd.f9 109 [.tmp 6, .tmp 7] := {f := Tryd.func9, t := Tryd.ntmps9}
instance z10 : FnI Tryd.prog 10 Tryd.f10 67 [.tmp 4] := {f := Tryd.func10, t := Tryd.ntmps10}
instance z11 : FnI Tryd.prog 11 Tryd.f11 29 [.tmp 2] := {f := Tryd.func11, t := Tryd.ntmps11}
instance z12 : FnI Tryd.prog 12 Tryd.f12 202 [.tmp 4, .tmp 5] := {f := Tryd.func12, t := Tryd.ntmps12}
instance z13 : FnI Tryd.prog 13 Tryd.f13 9 [.tmp 4] := {f := Tryd.func13, t := Tryd.ntmps13}
instance z14 : FnI Tryd.prog 14 Tryd.f14 8 [.tmp 3] := {f := Tryd.func14, t := Tryd.ntmps14}
instance z15 : FnI Tryd.prog 15 Tryd.f15 8 [.tmp 2] := {f := Tryd.func15, t := Tryd.ntmps15}
instance z16 : FnI Tryd.prog 16 Tryd.f16 8 [.tmp 2] := {f := Tryd.func16, t := Tryd.ntmps16}
instance z17 : FnI Tryd.prog 17 Tryd.f17 42 [.tmp 4] := {f := Tryd.func17, t := Tryd.ntmps17}
instance z18 : FnI Tryd.prog 18 Tryd.f18 131 [.tmp 8] := {f := Tryd.func18, t := Tryd.ntmps18}
instance z19 : FnI Tryd.prog 19 Tryd.f19 42 [.tmp 2] := {f := Tryd.func19, t := Tryd.ntmps19}
instance z20 : FnI Tryd.prog 20 Tryd.f20 57 [.tmp 4] := {f := Tryd.func20, t := Tryd.ntmps20}
instance z21 : FnI Tryd.prog 21 Tryd.f21 29 [.tmp 4] := {f := Tryd.func21, t := Tryd.ntmps21}
instance z22 : FnI Tryd.prog 22 Tryd.f22 28 [] := {f := Tryd.func22, t := Tryd.ntmps22}
instance z23 : FnI Tryd.prog 23 Tryd.f23 40 [.tmp 10, .tmp 11] := {f := Tryd.func23, t := Tryd.ntmps23}
instance z24 : FnI Tryd.prog 24 Tryd.f24 19 [.tmp 4] := {f := Tryd.func24, t := Tryd.ntmps24}
instance z25 : FnI Tryd.prog 25 Tryd.f25 30 [.tmp 8, .tmp 9] := {f := Tryd.func25, t := Tryd.ntmps25}
instance z26 : FnI Tryd.prog 26 Tryd.f26 31 [.tmp 6, .tmp 7] := {f := Tryd.func26, t := Tryd.ntmps26}
instance z28 : FnI Tryd.prog 28 Tryd.f28 36 [.tmp 8] := {f := Tryd.func28, t := Tryd.ntmps28}
instance z29 : FnI Tryd.prog 29 Tryd.f29 38 [.tmp 2] := {f := Tryd.func29, t := Tryd.ntmps29}
instance z30 : FnI Tryd.prog 30 Tryd.f30 9 [] := {f := Tryd.func30, t := Tryd.ntmps30}
instance z31 : FnI Tryd.prog 31 Tryd.f31 32 [.tmp 5] := {f := Tryd.func31, t := Tryd.ntmps31}
instance z32 : FnI Tryd.prog 32 Tryd.f32 18 [.tmp 2] := {f := Tryd.func32, t := Tryd.ntmps32}
instance z33 : FnI Tryd.prog 33 Tryd.f33 20 [.tmp 4] := {f := Tryd.func33, t := Tryd.ntmps33}
instance z34 : FnI Tryd.prog 34 Tryd.f34 51 [.tmp 6] := {f := Tryd.func34, t := Tryd.ntmps34}
instance z35 : FnI Tryd.prog 35 Tryd.f35 28 [.tmp 4] := {f := Tryd.func35, t := Tryd.ntmps35}
instance z36 : FnI Tryd.prog 36 Tryd.f36 17 [.tmp 6] := {f := Tryd.func36, t := Tryd.ntmps36}
instance z37 : FnI Tryd.prog 37 Tryd.f37 93 [.tmp 4] := {f := Tryd.func37, t := Tryd.ntmps37}
instance z38 : FnI Tryd.prog 38 Tryd.f38 41 [.tmp 2] := {f := Tryd.func38, t := Tryd.ntmps38}
instance z39 : FnI Tryd.prog 39 Tryd.f39 96 [.tmp 2] := {f := Tryd.func39, t := Tryd.ntmps39}
instance z40 : FnI Tryd.prog 40 Tryd.f40 15 [.tmp 2] := {f := Tryd.func40, t := Tryd.ntmps40}
instance z41 : FnI Tryd.prog 41 Tryd.f41 98 [.tmp 2] := {f := Tryd.func41, t := Tryd.ntmps41}
instance z42 : FnI Tryd.prog 42 Tryd.f42 64 [.tmp 2] := {f := Tryd.func42, t := Tryd.ntmps42}
instance z43 : FnI Tryd.prog 43 Tryd.f43 9 [.tmp 4] := {f := Tryd.func43, t := Tryd.ntmps43}
instance z44 : FnI Tryd.prog 44 Tryd.f44 67 [.tmp 6] := {f := Tryd.func44, t := Tryd.ntmps44}
instance z45 : FnI Tryd.prog 45 Tryd.f45 63 [] := {f := Tryd.func45, t := Tryd.ntmps45}
instance z46 : FnI Tryd.prog 46 Tryd.f46 6 [.tmp 2] := {f := Tryd.func46, t := Tryd.ntmps46}
instance z47 : FnI Tryd.prog 47 Tryd.f47 85 [.tmp 2] := {f := Tryd.func47, t := Tryd.ntmps47}
instance z48 : FnI Tryd.prog 48 Tryd.f48 18 [.tmp 2] := {f := Tryd.func48, t := Tryd.ntmps48}
instance z50 : FnI Tryd.prog 50 Tryd.f50 8 [.tmp 2] := {f := Tryd.func50, t := Tryd.ntmps50}
def c52 : AC :=
 .seq (.reg [xS 2 (xY false)] ⟨1, 0, []⟩ []) (.seq (.reg [xS 4 (.build 133 #[(0, .const (.string ⟨#[97, 103, 97, 105, 110]⟩)), (1, .const (.string ⟨#[97, 110, 100]⟩)), (2, .const (.string ⟨#[97, 115]⟩)), (3, .const (.string ⟨#[97, 116]⟩)), (4, .const (.string ⟨#[99, 97, 108, 108]⟩)), (5, .const (.string ⟨#[99, 104, 111, 105, 99, 101]⟩)), (6, .const (.string ⟨#[101, 108, 115, 101]⟩)), (7, .const (.string ⟨#[102, 114, 111, 109]⟩)), (8, .const (.string ⟨#[105, 102]⟩)), (9, .const (.string ⟨#[105, 110, 116]⟩)), (10, .const (.string ⟨#[108, 101, 110]⟩)), (11, .const (.string ⟨#[108, 111, 111, 112]⟩)), (12, .const (.string ⟨#[109, 101, 115, 115, 97, 103, 101]⟩)), (13, .const (.string ⟨#[111, 102]⟩)), (14, .const (.string ⟨#[111, 102, 102, 101, 114]⟩)), (15, .const (.string ⟨#[111, 110]⟩)), (16, .const (.string ⟨#[111, 114]⟩)), (17, .const (.string ⟨#[112, 97, 114]⟩)), (18, .const (.string ⟨#[112, 108, 97, 121, 115]⟩)), (19, .const (.string ⟨#[112, 114, 111, 116, 111, 99, 111, 108]⟩)), (20, .const (.string ⟨#[115, 101, 114, 118, 105, 99, 101]⟩)), (21, .const (.string ⟨#[116, 101, 120, 116]⟩)), (22, .const (.string ⟨#[116, 105, 109, 101, 115]⟩)), (23, .const (.string ⟨#[116, 111]⟩)), (24, .const (.string ⟨#[118, 97, 114]⟩)), (25, .const (.string ⟨#[119, 104, 101, 114, 101]⟩)), (26, .const (.string ⟨#[119, 104, 105, 108, 101]⟩)), (27, .const (.string ⟨#[119, 105, 116, 104, 105, 110]⟩))]), xS 3 (.alloc 133), x0 (xW 133 3 4)] ⟨4, 4, []⟩ []) (.seq (.reg [xS 5 (xM 0), xS 6 (xC 68 #[xT 5] #[9]), xS 7 (xM 6), xG 8 (.slice 133 (xT 3) none none none) 7 true, xG 9 (xM 0) 7 true, xG 10 (xC 53 #[xT 8, xT 9] #[22, 9]) 7 true, xG 11 (xU 10) 7 true, xS 12 (xK 7 11 false), xS 2 (xP 12)] ⟨5, 12, []⟩ []) .ret))
theorem z52 : FnF Tryd.prog Tryd.f52 13 c52 [.tmp 2] := ⟨by kernel_rfl, by kernel_rfl, by kernel_rfl, by kernel_rfl, by decide⟩
instance z53 : FnI Tryd.prog 53 Tryd.f53 9 [.tmp 4] := {f := Tryd.func53, t := Tryd.ntmps53}
instance z54 : FnI Tryd.prog 54 Tryd.f54 24 [.tmp 4, .tmp 5] := {f := Tryd.func54, t := Tryd.ntmps54}
instance z55 : FnI Tryd.prog 55 Tryd.f55 19 [.tmp 4] := {f := Tryd.func55, t := Tryd.ntmps55}
def c56 : AC :=
 .seq (.reg [xS 4 (.assign (.const (.slice none 0 0)))] ⟨1, 0, []⟩ []) (.seq (.seq (.reg [xS 9 (xM 1), xS 10 (xJ .lss 9 0)] ⟨9, 9, []⟩ []) (.cond (.tmp 10) (.reg [xS 11 (.makeInterface 9 (.const (.string ⟨#[99, 97, 110, 110, 111, 116, 32, 98, 101, 32, 110, 101, 103, 97, 116, 105, 118, 101]⟩))), x0 (.panic (xT 11))] ⟨11, 11, []⟩ []) .skip)) (.seq (.reg [xS 13 (xM 0), xS 14 (xN 13 58), xS 15 (.convert 3 136 (xT 14)), xS 16 (xM 1), xS 17 (.convert 3 136 (xT 16)), xS 18 (xC 71 #[xT 15, xT 17] #[136, 136]), xS 12 (xM 18), xS 19 (xE 12 0), xS 20 (xE 12 1), xS 5 (xP 19), xS 6 (xP 20)] ⟨12, 20, []⟩ []) (.seq (.seq (.reg [xS 21 (xM 5), xS 22 (.binOp .gtr 136 (xT 21) (.const (.int .u64 0)) 136), xS 23 (xM 22), xG 24 (xM 6) 23 false, xG 25 (.binOp .gtr 136 (xT 24) (.const (.int .u64 9223372036854775807)) 136) 23 false, xS 26 (xQ 23 25 true)] ⟨21, 25, []⟩ []) (.cond (.tmp 26) (.reg [xS 27 (.makeInterface 9 (.const (.string ⟨#[116, 104, 101, 32, 114, 101, 115, 117, 108, 116, 32, 111, 102, 32, 40, 108, 101, 110, 40, 120, 41, 32, 42, 32, 99, 111, 117, 110, 116, 41, 32, 111, 118, 101, 114, 102, 108, 111, 119, 115]⟩))), x0 (.panic (xT 27))] ⟨27, 27, []⟩ []) .skip)) (.seq (.reg [xS 28 (xM 6), xS 29 (.convert 136 3 (xT 28)), xS 30 (.makeSlice 58 (xT 29) (xT 29)), xS 7 (xP 30)] ⟨28, 30, []⟩ []) (.seq (.reg [xS 31 (xM 7), xS 32 (xM 0), xS 33 (.call ⟨.builtin .copy, #[xT 31, xT 32], #[58, 58]⟩), xS 8 (xP 33)] ⟨31, 33, []⟩ []) (.seq (.block 0 (.loop (.seq (.seq (.reg [xS 34 (xM 8), xS 35 (xM 7), xS 36 (xN 35 58), xS 37 (xO .lss 34 36)] ⟨34, 36, []⟩ []) (.cond (.tmp 37) .skip (.exit 0))) (.block 1 (.drw [⟨xS 38 (xM 8), []⟩, ⟨xS 39 (xM 7), []⟩, ⟨xS 40 (xM 8), []⟩, ⟨xS 41 (.slice 58 (xT 39) (some (xT 40)) none none), [39, 40]⟩, ⟨xS 42 (xM 7), []⟩, ⟨xS 43 (xM 8), []⟩, ⟨xS 44 (.slice 58 (xT 42) none (some (xT 43)) none), [42, 43]⟩] [⟨xS 45 (.call ⟨.builtin .copy, #[xT 41, xT 44], #[58, 58]⟩), [41, 39, 40, 44, 42, 43], [true, false, false, false, false, false, false]⟩, ⟨xS 46 (xO .add 38 45), [38], []⟩, ⟨xS 8 (xP 46), [], []⟩] ⟨38, 44, []⟩ ⟨38, 46, []⟩ []))))) (.seq (.reg [xS 47 (xM 7), xS 4 (xP 47)] ⟨47, 47, []⟩ []) .ret)))))))
theorem z56 : FnF Tryd.prog Tryd.f56 48 c56 [.tmp 4] := ⟨by kernel_rfl, by kernel_rfl, by kernel_rfl, by kernel_rfl, by decide⟩
instance z57 : FnI Tryd.prog 57 Tryd.f57 53 [] := {f := Tryd.func57, t := Tryd.ntmps57}
instance z58 : FnI Tryd.prog 58 Tryd.f58 220 [] := {f := Tryd.func58, t := Tryd.ntmps58}
def c59 : AC :=
 .seq (.reg [xS 2 (xY false)] ⟨1, 0, []⟩ []) (.seq (.reg [xS 3 (xM 0), xS 4 (xN 3 9), xS 5 (xJ .leq 4 50), xS 6 (xM 5), xG 7 (xM 0) 6 true, xG 8 (xC 74 #[xT 7, .const (.string ⟨#[46]⟩)] #[9, 9]) 6 true, xG 9 (xC 73 #[xT 8, .func 75] #[22, 115]) 6 true, xG 10 (xU 9) 6 true, xS 11 (xK 6 10 false), xS 2 (xP 11)] ⟨3, 11, []⟩ []) .ret)
theorem z59 : FnF Tryd.prog Tryd.f59 12 c59 [.tmp 2] := ⟨by kernel_rfl, by kernel_rfl, by kernel_rfl, by kernel_rfl, by decide⟩
instance z60 : FnI Tryd.prog 60 Tryd.f60 9 [.tmp 4] := {f := Tryd.func60, t := Tryd.ntmps60}
instance z61 : FnI Tryd.prog 61 Tryd.f61 9 [.tmp 3] := {f := Tryd.func61, t := Tryd.ntmps61}
instance z62 : FnI Tryd.prog 62 Tryd.f62 39 [.tmp 2] := {f := Tryd.func62, t := Tryd.ntmps62}
instance z63 : FnI Tryd.prog 63 Tryd.f63 9 [.tmp 4] := {f := Tryd.func63, t := Tryd.ntmps63}
instance z64 : FnI Tryd.prog 64 Tryd.f64 9 [.tmp 3] := {f := Tryd.func64, t := Tryd.ntmps64}
instance z65 : FnI Tryd.prog 65 Tryd.f65 85 [.tmp 4] := {f := Tryd.func65, t := Tryd.ntmps65}
def c68 : AC :=
 .seq (.reg [xS 2 (xY false)] ⟨1, 0, []⟩ []) (.seq (.seq (.reg [xS 4 (xM 0), xS 5 (.binOp .eql 9 (xT 4) (.const (.string ⟨#[]⟩)) 9), xS 6 (xM 5), xG 7 (xM 0) 6 false, xG 8 (xN 7 9) 6 false, xG 9 (xJ .gtr 8 16) 6 false, xS 10 (xQ 6 9 true), xS 11 (xM 10), xG 12 (xM 0) 11 false, xG 13 (.index 9 (xT 12) (xI 0)) 11 false, xG 14 (xC 79 #[xT 13] #[5]) 11 false, xG 15 (xU 14) 11 false, xS 16 (xQ 11 15 true)] ⟨4, 15, []⟩ []) (.cond (.tmp 16) (.seq (.reg [xS 2 (xY false)] ⟨1, 0, []⟩ []) .ret) .skip)) (.seq (.seq (.reg [xS 17 (xM 0), xS 18 (xN 17 9), xS 19 (.move (xI 0))] ⟨17, 17, []⟩ []) (.block 0 (.loop (.seq (.reg [xS 20 (xO .lss 19 18)] ⟨1, 0, []⟩ []) (.seq (.cond (.tmp 20) .skip (.exit 0)) (.seq (.block 1 (.seq (.reg [xS 21 (xM 19), xS 3 (xP 21)] ⟨21, 21, []⟩ []) (.seq (.reg [xS 22 (xM 0), xS 23 (xM 3), xS 24 (.index 9 (xT 22) (xT 23)), xS 25 (xC 80 #[xT 24] #[5]), xS 26 (xU 25)] ⟨22, 25, []⟩ []) (.cond (.tmp 26) (.seq (.reg [xS 2 (xY false)] ⟨1, 0, []⟩ []) .ret) .skip)))) (.reg [xS 27 (xJ .add 19 1), xS 19 (xM 27)] ⟨27, 27, []⟩ []))))))) (.seq (.reg [xS 2 (xY true)] ⟨1, 0, []⟩ []) .ret)))
theorem z68 : FnF Tryd.prog Tryd.f68 28 c68 [.tmp 2] := ⟨by kernel_rfl, by kernel_rfl, by kernel_rfl, by kernel_rfl, by decide⟩
instance z69 : FnI Tryd.prog 69 Tryd.f69 19 [.tmp 4] := {f := Tryd.func69, t := Tryd.ntmps69}
instance z70 : FnI Tryd.prog 70 Tryd.f70 65 [.tmp 2] := {f := Tryd.func70, t := Tryd.ntmps70}
instance z71 : FnI Tryd.prog 71 Tryd.f71 30 [.tmp 4, .tmp 5] := {f := Tryd.func71, t := Tryd.ntmps71}
instance z72 : FnI Tryd.prog 72 Tryd.f72 58 [] := {f := Tryd.func72, t := Tryd.ntmps72}
instance z73 : FnI Tryd.prog 73 Tryd.f73 9 [.tmp 4] := {f := Tryd.func73, t := Tryd.ntmps73}
instance z74 : FnI Tryd.prog 74 Tryd.f74 8 [.tmp 4] := {f := Tryd.func74, t := Tryd.ntmps74}
instance z75 : FnI Tryd.prog 75 Tryd.f75 6 [.tmp 2] := {f := Tryd.func75, t := Tryd.ntmps75}
instance z76 : FnI Tryd.prog 76 Tryd.f76 19 [.tmp 4] := {f := Tryd.func76, t := Tryd.ntmps76}
instance z77 : FnI Tryd.prog 77 Tryd.f77 19 [.tmp 4] := {f := Tryd.func77, t := Tryd.ntmps77}
instance z79 : FnI Tryd.prog 79 Tryd.f79 17 [.tmp 2] := {f := Tryd.func79, t := Tryd.ntmps79}
instance z80 : FnI Tryd.prog 80 Tryd.f80 13 [.tmp 2] := {f := Tryd.func80, t := Tryd.ntmps80}
instance z82 : FnI Tryd.prog 82 Tryd.f82 51 [.tmp 4, .tmp 5] := {f := Tryd.func82, t := Tryd.ntmps82}
instance z83 : FnI Tryd.prog 83 Tryd.f83 38 [] := {f := Tryd.func83, t := Tryd.ntmps83}
instance z84 : FnI Tryd.prog 84 Tryd.f84 19 [.tmp 4] := {f := Tryd.func84, t := Tryd.ntmps84}
def c85 : AC :=
 .seq (.reg [xS 8 (.assign (.const (.slice none 0 0)))] ⟨1, 0, []⟩ []) (.seq (.seq (.reg [xS 12 (xM 3), xS 13 (xJ .eql 12 0)] ⟨12, 12, []⟩ []) (.cond (.tmp 13) (.seq (.reg [xS 8 (.assign (.const (.slice none 0 0)))] ⟨1, 0, []⟩ []) .ret) .skip)) (.seq (.seq (.reg [xS 14 (xM 1), xS 15 (.binOp .eql 9 (xT 14) (.const (.string ⟨#[]⟩)) 9)] ⟨14, 14, []⟩ []) (.cond (.tmp 15) (.seq (.reg [xS 16 (xM 0), xS 17 (xM 3), xS 18 (xC 88 #[xT 16, xT 17] #[9, 3]), xS 8 (xP 18)] ⟨16, 18, []⟩ []) .ret) .skip)) (.seq (.seq (.reg [xS 19 (xM 3), xS 20 (xJ .lss 19 0)] ⟨19, 19, []⟩ []) (.cond (.tmp 20) (.reg [xS 21 (xM 0), xS 22 (xM 1), xS 23 (xC 89 #[xT 21, xT 22] #[9, 9]), xS 24 (xJ .add 23 1), xS 3 (xP 24)] ⟨21, 24, []⟩ []) .skip)) (.seq (.reg [xS 25 (xM 3), xS 26 (xM 0), xS 27 (xN 26 9), xS 28 (xJ .add 27 1), xS 29 (.call ⟨.builtin .min, #[xT 25, xT 28], #[3, 3]⟩), xS 3 (xP 29)] ⟨25, 29, []⟩ []) (.seq (.reg [xS 30 (xM 3), xS 31 (.makeSlice 22 (xT 30) (xT 30)), xS 9 (xP 31)] ⟨30, 31, []⟩ []) (.seq (.reg [xS 32 (xM 3), xS 33 (xJ .sub 32 1), xS 3 (xP 33)] ⟨32, 33, []⟩ []) (.seq (.reg [xS 10 (xZ 0)] ⟨1, 0, []⟩ []) (.seq (.block 0 (.loop (.seq (.seq (.reg [xS 34 (xM 10), xS 35 (xM 3), xS 36 (xO .lss 34 35)] ⟨34, 35, []⟩ []) (.cond (.tmp 36) .skip (.exit 0))) (.block 1 (.seq (.reg [xS 37 (xM 0), xS 38 (xM 1), xS 39 (xC 90 #[xT 37, xT 38] #[9, 9]), xS 11 (xP 39)] ⟨37, 39, []⟩ []) (.seq (.seq (.reg [xS 40 (xM 11), xS 41 (xJ .lss 40 0)] ⟨40, 40, []⟩ []) (.cond (.tmp 41) (.exit 0) .skip)) (.seq (.reg [xS 42 (xM 9), xS 43 (xM 10), xS 44 (xM 0), xS 45 (xM 11), xS 46 (xM 2), xS 47 (xO .add 45 46), xS 48 (.slice 9 (xT 44) none (some (xT 47)) none), xS 49 (xA 22 42 43), x0 (xW 9 49 48)] ⟨42, 49, []⟩ []) (.seq (.reg [xS 50 (xM 0), xS 51 (xM 11), xS 52 (xM 1), xS 53 (xN 52 9), xS 54 (xO .add 51 53), xS 55 (.slice 9 (xT 50) (some (xT 54)) none none), xS 0 (xP 55)] ⟨50, 55, []⟩ []) (.reg [xS 56 (xM 10), xS 57 (xJ .add 56 1), xS 10 (xP 57)] ⟨56, 57, []⟩ []))))))))) (.seq (.reg [xS 58 (xM 9), xS 59 (xM 10), xS 60 (xM 0), xS 61 (xA 22 58 59), x0 (xW 9 61 60)] ⟨58, 61, []⟩ []) (.seq (.reg [xS 62 (xM 9), xS 63 (xM 10), xS 64 (xJ .add 63 1), xS 65 (.slice 22 (xT 62) none (some (xT 64)) none), xS 8 (xP 65)] ⟨62, 65, []⟩ []) .ret))))))))))
theorem z85 : FnF Tryd.prog Tryd.f85 66 c85 [.tmp 8] := ⟨by kernel_rfl, by kernel_rfl, by kernel_rfl, by kernel_rfl, by decide⟩
instance z87 : FnI Tryd.prog 87 Tryd.f87 9 [.tmp 2] := {f := Tryd.func87, t := Tryd.ntmps87}
end Go.Av
