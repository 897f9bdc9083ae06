/- Part of a proof. -/
/- PRINTED 24 77 78 95 98 112 114 123 140 159 164 -/
import Derived.Test.YtbfebdbdoclagaaGreatDoorAvR
import Derived.Test.YtbfebdbdoclagaaGreatDoorProg
set_option linter.unusedVariables false
set_option linter.unusedSimpArgs false
set_option maxHeartbeats 64000000
namespace Go.Av
open Go Go.RowKit Go.Proofs
def xS (d : Nat) (o : Op) : SOp := ⟨some d, o, none⟩
def xG (d : Nat) (o : Op) (g : Nat) (b : Bool) : SOp := ⟨some d, o, some (g, b)⟩
def x0 (o : Op) : SOp := ⟨none, o, none⟩
def xT (n : Nat) : Operand := .tmp n
def xI (n : Int) : Operand := .const (.int .i64 n)
def xL (t n : Nat) : Op := .load t (.tmp n)
def xM (n : Nat) : Op := .move (.tmp n)
def xF (t n f : Nat) : Op := .fieldAddr t (.tmp n) f
def xA (t n i : Nat) : Op := .indexAddr t (.tmp n) (.tmp i)
def xW (t n v : Nat) : Op := .store t (.tmp n) (.tmp v)
def xP (n : Nat) : Op := .assign (.tmp n)
def xB (b : Bool) : Operand := .const (.bool b)
def xC (f : Nat) (a : Array Operand) (t : Array TypeId) : Op := .call ⟨.value (.func f), a, t⟩
def xN (n t : Nat) : Op := .call ⟨.builtin .len, #[.tmp n], #[t]⟩
def xE (n i : Nat) : Op := .extract (.tmp n) i
def xU (n : Nat) : Op := .unOp .not 4 (.tmp n)
def xO (o : BinOp) (n m : Nat) : Op := .binOp o 3 (.tmp n) (.tmp m) 3
def xJ (o : BinOp) (n : Nat) (m : Int) : Op := .binOp o 3 (.tmp n) (.const (.int .i64 m)) 3
def xK (c n : Nat) (b : Bool) : Op := .pick (.tmp c) (.tmp n) (.const (.bool b))
def xQ (c n : Nat) (b : Bool) : Op := .pick (.tmp c) (.const (.bool b)) (.tmp n)
def xZ (n : Int) : Op := .assign (.const (.int .i64 n))
def xY (b : Bool) : Op := .assign (.const (.bool b))
attribute [go_sem] xS xG x0 xT xI xL xM xF xA xW xP xB xC xN xE xU xO xJ xK xQ xZ xY

/-- What is known of a function's text. -/
structure FnF (P : Program) (f : Func) (m : Nat) (c : AC) (rs : List ResultVar) : Prop where
  b : f.body = some (f.body.getD .skip)
  e : slim (f.body.getD .skip) = c
  d : textOk P m (f.body.getD .skip) = true
  r : f.results.toList = rs
  n : f.name ≠ "runtime.NumGoroutine"
theorem impl_z {P : Program} {f : FuncId} {fn : Func} {ac : AC} {rl : List ResultVar} (hf : P.funcs[f]? = some fn) {N : Nat} (z : FnF P fn N ac rl) (hN0 : fn.ntmps = N) {args : List SV} {r : RV} (hN : args.length ≤ N) (h : awp P ac (endsIn P rl r) (slotsOf 0 args)) : Impl P f args r :=
  impl_intro hf z.b z.e z.r z.n hN0 z.d hN fun _ => h
instance z3 : FnI Tryz.prog 3 Tryz.f3 52 [.tmp 4] := {f := Tryz.func3, t := Tryz.ntmps3}
instance z4 : FnI Tryz.prog 4 Tryz.f4 53 [.tmp 4] := {f := Tryz.func4, t := Tryz.ntmps4}
instance z5 : FnI Tryz.prog 5 Tryz.f5 93 [.tmp 4] := {f := Tryz.func5, t := Tryz.ntmps5}
instance z6 : FnI Tryz.prog 6 Tryz.f6 49 [.tmp 6] := {f := Tryz.func6, t := Tryz.ntmps6}
instance z7 : FnI Tryz.prog 7 Tryz.f7 96 [.tmp 6] := {f := Tryz.func7, t := Tryz.ntmps7}
instance z8 : FnI Tryz.prog 8 Tryz.f8 134 [.tmp 6] := {f := Tryz.func8, t := Tryz.ntmps8}
instance z9 : FnI Tryz.prog 9 Tryz.f9 45 [.tmp 0] := {f := Tryz.func9, t := Tryz.ntmps9}
instance z10 : FnI Tryz.prog 10 Tryz.f10 25 [.tmp 2] := {f := Tryz.func10, t := Tryz.ntmps10}
instance z11 : FnI Tryz.prog 11 Tryz.f11 33 [.tmp 4, .tmp 5] := {f := Tryz.func11, t := Tryz.ntmps11}
instance z12 : FnI Tryz.prog 12 Tryz.f12 34 [.tmp 4, .tmp 5] := {f := Tryz.func12, t := Tryz.ntmps12}
instance z13 : FnI Tryz.prog 13 Tryz.f13 15 [.tmp 2] := {f := Tryz.func13, t := Tryz.ntmps13}
instance z14 : FnI Tryz.prog 14 Tryz.f14 36 [.tmp 4] := {f := Tryz.func14, t := Tryz.ntmps14}
instance z15 : FnI Tryz.prog 15 Tryz.f15 26 [.tmp 4] := {f := Tryz.func15, t := Tryz.ntmps15}
instance z16 : FnI Tryz.prog 16 Tryz.f16 30 [.tmp 4] := {f := Tryz.func16, t := Tryz.ntmps16}
instance z17 : FnI Tryz.prog 17 Tryz.f17 18 [.tmp 4] := {f := Tryz.func17, t := Tryz.ntmps17}
instance z18 : FnI Tryz.prog 18 Tryz.f18 10 [.tmp 4] := {f := Tryz.func18, t := Tryz.ntmps18}
instance z19 : FnI Tryz.prog 19 Tryz.f19 30 [.tmp 6, .tmp 7] := {f := Tryz.func19, t := Tryz.ntmps19}
instance z20 : FnI Tryz.prog 20 Tryz.f20 38 [.tmp 6, .tmp 7] := {f := Tryz.func20, t := Tryz.ntmps20}
instance z21 : FnI Tryz.prog 21 Tryz.f21 26 [.tmp 4] := {f := Tryz.func21, t := Tryz.ntmps21}
instance z22 : FnI Tryz.prog 22 Tryz.f22 89 [.tmp 8] := {f := Tryz.func22, t := Tryz.ntmps22}
instance z23 : FnI Tryz.prog 23 Tryz.f23 51 [.tmp 4, .tmp 5] := {f := Tryz.func23, t := Tryz.ntmps23}
def c24 : AC :=
 .seq (.reg [xS 2 (.alloc 27)] ⟨1, 0, []⟩ []) (.seq (.reg [xS 6 (.buildSlice 22 3 #[(0, .const (.string ⟨#[112]⟩)), (1, .const (.string ⟨#[113]⟩)), (2, .const (.string ⟨#[114]⟩))]), xS 7 (.build 96 #[(0, .const (.string ⟨#[97]⟩))]), xS 8 (.build 96 #[(0, .const (.string ⟨#[98]⟩))]), xS 9 (.build 96 #[(0, .const (.string ⟨#[99]⟩))]), xS 10 (.buildSlice 23 3 #[(0, xT 7), (1, xT 8), (2, xT 9)]), xS 11 (xM 0), xS 12 (xN 11 46), xS 13 (xJ .add 12 1), xS 14 (xM 0), xS 15 (xN 14 46), xS 16 (.build 27 #[(0, .const (.string ⟨#[108]⟩)), (1, xT 6), (2, xT 10), (3, xT 13), (5, xT 15)]), xS 3 (.alloc 27), x0 (xW 27 3 16)] ⟨6, 16, []⟩ []) (.seq (.seq (.reg [xS 17 (xM 0), xS 18 (xN 17 46), xS 19 (.move (xI 0))] ⟨1, 0, []⟩ []) (.block 0 (.loop (.seq (.reg [xS 20 (xO .lss 19 18)] ⟨1, 0, []⟩ []) (.seq (.cond (.tmp 20) .skip (.exit 0)) (.seq (.block 1 (.seq (.reg [xS 21 (xM 19), xS 22 (xA 46 17 19), xS 23 (xL 42 22), xS 5 (.alloc 42), xS 4 (xP 21), x0 (xW 42 5 23)] ⟨21, 23, []⟩ []) (.reg [xS 24 (xF 27 3 6), xS 25 (xL 24 24), xS 26 (xM 4), xS 27 (xL 42 5), xS 28 (xM 4), xS 29 (xJ .add 28 1), xS 30 (.build 44 #[(0, xT 26), (1, xT 27), (2, xT 29)]), xS 31 (.buildSlice 24 1 #[(0, xT 30)]), xS 32 (.call ⟨.builtin .append, #[xT 25, xT 31], #[24, 24]⟩), xS 33 (xF 27 3 6), x0 (xW 24 33 32)] ⟨24, 33, []⟩ []))) (.reg [xS 34 (xJ .add 19 1), xS 19 (xM 34)] ⟨34, 34, []⟩ []))))))) (.seq (.reg [xS 35 (xL 27 3), x0 (xW 27 2 35)] ⟨35, 35, []⟩ []) .ret)))
theorem z24 : FnF Tryz.prog Tryz.f24 36 c24 [.cell 2 27] := ⟨by kernel_rfl, by kernel_rfl, by kernel_rfl, by kernel_rfl, by decide⟩
instance z25 : FnI Tryz.prog 25 Tryz.f25 219 [.tmp 4, .tmp 5] := {f := Tryz.func25, t := Tryz.ntmps25}
instance z27 : FnI Tryz.prog 27 Tryz.f27 17 [.tmp 4] := {f := Tryz.func27, t := Tryz.ntmps27}
instance z28 : FnI Tryz.prog 28 Tryz.f28 18 [.tmp 2] := {f := Tryz.func28, t := Tryz.ntmps28}
instance z29 : FnI Tryz.prog 29 Tryz.f29 20 [.tmp 4] := {f := Tryz.func29, t := Tryz.ntmps29}
instance z30 : FnI Tryz.prog 30 Tryz.f30 17 [.tmp 4] := {f := Tryz.func30, t := Tryz.ntmps30}
instance z31 : FnI Tryz.prog 31 Tryz.f31 92 [.tmp 4] := {f := Tryz.func31, t := Tryz.ntmps31}
instance z32 : FnI Tryz.prog 32 Tryz.f32 21 [.tmp 2] := {f := Tryz.func32, t := Tryz.ntmps32}
instance z33 : FnI Tryz.prog 33 Tryz.f33 9 [.tmp 4] := {f := Tryz.func33, t := Tryz.ntmps33}
instance z35 : FnI Tryz.prog 35 Tryz.f35 48 [.tmp 4] := {f := Tryz.func35, t := Tryz.ntmps35}
instance z36 : FnI Tryz.prog 36 Tryz.f36 28 [.tmp 4] := {f := Tryz.func36, t := Tryz.ntmps36}
instance z37 : FnI Tryz.prog 37 Tryz.f37 19 [.tmp 4] := {f := Tryz.func37, t := Tryz.ntmps37}
instance z38 : FnI Tryz.prog 38 Tryz.f38 8 [.tmp 3] := {f := Tryz.func38, t := Tryz.ntmps38}
instance z39 : FnI Tryz.prog 39 Tryz.f39 157 [.tmp 4] := {f := Tryz.func39, t := Tryz.ntmps39}
instance z40 : FnI Tryz.prog 40 Tryz.f40 44 [.tmp 6, .tmp 7] := {f := Tryz.func40, t := Tryz.ntmps40}
instance z41 : FnI Tryz.prog 41 Tryz.f41 27 [.tmp 4] := {f := Tryz.func41, t := Tryz.ntmps41}
instance z42 : FnI Tryz.prog 42 Tryz.f42 38 [.tmp 2] := {f := Tryz.func42, t := Tryz.ntmps42}
instance z44 : FnI Tryz.prog 44 Tryz.f44 10 [.tmp 4] := {f := Tryz.func44, t := Tryz.ntmps44}
instance z45 : FnI Tryz.prog 45 Tryz.f45 22 [.tmp 4] := {f := Tryz.func45, t := Tryz.ntmps45}
instance z46 : FnI Tryz.prog 46 Tryz.f46 9 [.tmp 4] := {f := Tryz.func46, t := Tryz.ntmps46}
instance z47 : FnI Tryz.prog 47 Tryz.f47 8 [.tmp 3] := {f := Tryz.func47, t := Tryz.ntmps47}
instance z48 : FnI Tryz.prog 48 Tryz.f48 28 [] := {f := Tryz.func48, t := Tryz.ntmps48}
instance z51 : FnI Tryz.prog 51 Tryz.f51 6 [.tmp 2] := {f := Tryz.func51, t := Tryz.ntmps51}
instance z52 : FnI Tryz.prog 52 Tryz.f52 50 [.tmp 2] := {f := Tryz.func52, t := Tryz.ntmps52}
instance z53 : FnI Tryz.prog 53 Tryz.f53 109 [.tmp 2] := {f := Tryz.func53, t := Tryz.ntmps53}
instance z54 : FnI Tryz.prog 54 Tryz.f54 97 [.tmp 2] := {f := Tryz.func54, t := Tryz.ntmps54}
instance z55 : FnI Tryz.prog 55 Tryz.f55 82 [.tmp 2] := {f := Tryz.func55, t := Tryz.ntmps55}
instance z56 : FnI Tryz.prog 56 Tryz.f56 82 [.tmp 2] := {f := Tryz.func56, t := Tryz.ntmps56}
instance z57 : FnI Tryz.prog 57 Tryz.f57 19 [.tmp 4] := {f := Tryz.func57, t := Tryz.ntmps57}
instance z59 : FnI Tryz.prog 59 Tryz.f59 13 [.tmp 2] := {f := Tryz.func59, t := Tryz.ntmps59}
instance z60 : FnI Tryz.prog 60 Tryz.f60 61 [.tmp 4] := {f := Tryz.func60, t := Tryz.ntmps60}
instance z61 : FnI Tryz.prog 61 Tryz.f61 25 [.tmp 4] := {f := Tryz.func61, t := Tryz.ntmps61}
instance z62 : FnI Tryz.prog 62 Tryz.f62 41 [.tmp 2] := {f := Tryz.func62, t := Tryz.ntmps62}
instance z63 : FnI Tryz.prog 63 Tryz.f63 96 [.tmp 2] := {f := Tryz.func63, t := Tryz.ntmps63}
instance z64 : FnI Tryz.prog 64 Tryz.f64 15 [.tmp 2] := {f := Tryz.func64, t := Tryz.ntmps64}
instance z65 : FnI Tryz.prog 65 Tryz.f65 98 [.tmp 2] := {f := Tryz.func65, t := Tryz.ntmps65}
instance z66 : FnI Tryz.prog 66 Tryz.f66 64 [.tmp 2] := {f := Tryz.func66, t := Tryz.ntmps66}
instance z67 : FnI Tryz.prog 67 Tryz.f67 67 [.tmp 6] := {f := Tryz.func67, t := Tryz.ntmps67}
instance z79 : FnI Tryz.prog 79 Tryz.f79 11 [.tmp 2] := {f := Tryz.func79, t := Tryz.ntmps79}
instance z80 : FnI Tryz.prog 80 Tryz.f80 19 [.tmp 4] := {f := Tryz.func80, t := Tryz.ntmps80}
instance z81 : FnI Tryz.prog 81 Tryz.f81 111 [.tmp 2] := {f := Tryz.func81, t := Tryz.ntmps81}
instance z82 : FnI Tryz.prog 82 Tryz.f82 13 [.tmp 4] := {f := Tryz.func82, t := Tryz.ntmps82}
instance z83 : FnI Tryz.prog 83 Tryz.f83 64 [.tmp 2] := {f := Tryz.func83, t := Tryz.ntmps83}
instance z84 : FnI Tryz.prog 84 Tryz.f84 49 [.tmp 4] := {f := Tryz.func84, t := Tryz.ntmps84}
instance z94 : FnI Tryz.prog 94 Tryz.f94 30 [.tmp 4] := {f := Tryz.func94, t := Tryz.ntmps94}
def c95 : AC :=
 .seq (.reg [xS 2 (xY false)] ⟨1, 0, []⟩ []) (.seq (.reg [xS 4 (.build 172 #[(0, .const (.string ⟨#[97, 103, 97, 105, 110]⟩)), (1, .const (.string ⟨#[97, 110, 100]⟩)), (2, .const (.string ⟨#[97, 115]⟩)), (3, .const (.string ⟨#[97, 116]⟩)), (4, .const (.string ⟨#[99, 97, 108, 108]⟩)), (5, .const (.string ⟨#[99, 104, 111, 105, 99, 101]⟩)), (6, .const (.string ⟨#[101, 108, 115, 101]⟩)), (7, .const (.string ⟨#[102, 114, 111, 109]⟩)), (8, .const (.string ⟨#[105, 102]⟩)), (9, .const (.string ⟨#[105, 110, 116]⟩)), (10, .const (.string ⟨#[108, 101, 110]⟩)), (11, .const (.string ⟨#[108, 111, 111, 112]⟩)), (12, .const (.string ⟨#[109, 101, 115, 115, 97, 103, 101]⟩)), (13, .const (.string ⟨#[111, 102]⟩)), (14, .const (.string ⟨#[111, 102, 102, 101, 114]⟩)), (15, .const (.string ⟨#[111, 110]⟩)), (16, .const (.string ⟨#[111, 114]⟩)), (17, .const (.string ⟨#[112, 97, 114]⟩)), (18, .const (.string ⟨#[112, 108, 97, 121, 115]⟩)), (19, .const (.string ⟨#[112, 114, 111, 116, 111, 99, 111, 108]⟩)), (20, .const (.string ⟨#[115, 101, 114, 118, 105, 99, 101]⟩)), (21, .const (.string ⟨#[116, 101, 120, 116]⟩)), (22, .const (.string ⟨#[116, 105, 109, 101, 115]⟩)), (23, .const (.string ⟨#[116, 111]⟩)), (24, .const (.string ⟨#[118, 97, 114]⟩)), (25, .const (.string ⟨#[119, 104, 101, 114, 101]⟩)), (26, .const (.string ⟨#[119, 104, 105, 108, 101]⟩)), (27, .const (.string ⟨#[119, 105, 116, 104, 105, 110]⟩))]), xS 3 (.alloc 172), x0 (xW 172 3 4)] ⟨4, 4, []⟩ []) (.seq (.reg [xS 5 (xM 0), xS 6 (xC 123 #[xT 5] #[9]), xS 7 (xM 6), xG 8 (.slice 172 (xT 3) none none none) 7 true, xG 9 (xM 0) 7 true, xG 10 (xC 96 #[xT 8, xT 9] #[22, 9]) 7 true, xG 11 (xU 10) 7 true, xS 12 (xK 7 11 false), xS 2 (xP 12)] ⟨5, 12, []⟩ []) .ret))
theorem z95 : FnF Tryz.prog Tryz.f95 13 c95 [.tmp 2] := ⟨by kernel_rfl, by kernel_rfl, by kernel_rfl, by kernel_rfl, by decide⟩
instance z96 : FnI Tryz.prog 96 Tryz.f96 9 [.tmp 4] := {f := Tryz.func96, t := Tryz.ntmps96}
instance z97 : FnI Tryz.prog 97 Tryz.f97 24 [.tmp 4, .tmp 5] := {f := Tryz.func97, t := Tryz.ntmps97}
def c98 : AC :=
 .seq (.reg [xS 4 (.assign (.const (.slice none 0 0)))] ⟨1, 0, []⟩ []) (.seq (.seq (.reg [xS 9 (xM 1), xS 10 (xJ .lss 9 0)] ⟨9, 9, []⟩ []) (.cond (.tmp 10) (.reg [xS 11 (.makeInterface 9 (.const (.string ⟨#[99, 97, 110, 110, 111, 116, 32, 98, 101, 32, 110, 101, 103, 97, 116, 105, 118, 101]⟩))), x0 (.panic (xT 11))] ⟨11, 11, []⟩ []) .skip)) (.seq (.reg [xS 13 (xM 0), xS 14 (xN 13 47), xS 15 (.convert 3 111 (xT 14)), xS 16 (xM 1), xS 17 (.convert 3 111 (xT 16)), xS 18 (xC 127 #[xT 15, xT 17] #[111, 111]), xS 12 (xM 18), xS 19 (xE 12 0), xS 20 (xE 12 1), xS 5 (xP 19), xS 6 (xP 20)] ⟨12, 20, []⟩ []) (.seq (.seq (.reg [xS 21 (xM 5), xS 22 (.binOp .gtr 111 (xT 21) (.const (.int .u64 0)) 111), xS 23 (xM 22), xG 24 (xM 6) 23 false, xG 25 (.binOp .gtr 111 (xT 24) (.const (.int .u64 9223372036854775807)) 111) 23 false, xS 26 (xQ 23 25 true)] ⟨21, 25, []⟩ []) (.cond (.tmp 26) (.reg [xS 27 (.makeInterface 9 (.const (.string ⟨#[116, 104, 101, 32, 114, 101, 115, 117, 108, 116, 32, 111, 102, 32, 40, 108, 101, 110, 40, 120, 41, 32, 42, 32, 99, 111, 117, 110, 116, 41, 32, 111, 118, 101, 114, 102, 108, 111, 119, 115]⟩))), x0 (.panic (xT 27))] ⟨27, 27, []⟩ []) .skip)) (.seq (.reg [xS 28 (xM 6), xS 29 (.convert 111 3 (xT 28)), xS 30 (.makeSlice 47 (xT 29) (xT 29)), xS 7 (xP 30)] ⟨28, 30, []⟩ []) (.seq (.reg [xS 31 (xM 7), xS 32 (xM 0), xS 33 (.call ⟨.builtin .copy, #[xT 31, xT 32], #[47, 47]⟩), xS 8 (xP 33)] ⟨31, 33, []⟩ []) (.seq (.block 0 (.loop (.seq (.seq (.reg [xS 34 (xM 8), xS 35 (xM 7), xS 36 (xN 35 47), xS 37 (xO .lss 34 36)] ⟨34, 36, []⟩ []) (.cond (.tmp 37) .skip (.exit 0))) (.block 1 (.drw [⟨xS 38 (xM 8), []⟩, ⟨xS 39 (xM 7), []⟩, ⟨xS 40 (xM 8), []⟩, ⟨xS 41 (.slice 47 (xT 39) (some (xT 40)) none none), [39, 40]⟩, ⟨xS 42 (xM 7), []⟩, ⟨xS 43 (xM 8), []⟩, ⟨xS 44 (.slice 47 (xT 42) none (some (xT 43)) none), [42, 43]⟩] [⟨xS 45 (.call ⟨.builtin .copy, #[xT 41, xT 44], #[47, 47]⟩), [41, 39, 40, 44, 42, 43], [true, false, false, false, false, false, false]⟩, ⟨xS 46 (xO .add 38 45), [38], []⟩, ⟨xS 8 (xP 46), [], []⟩] ⟨38, 44, []⟩ ⟨38, 46, []⟩ []))))) (.seq (.reg [xS 47 (xM 7), xS 4 (xP 47)] ⟨47, 47, []⟩ []) .ret)))))))
theorem z98 : FnF Tryz.prog Tryz.f98 48 c98 [.tmp 4] := ⟨by kernel_rfl, by kernel_rfl, by kernel_rfl, by kernel_rfl, by decide⟩
def c112 : AC :=
 .seq (.reg [xS 2 (xY false)] ⟨1, 0, []⟩ []) (.seq (.seq (.reg [xS 4 (xM 0), xS 5 (.binOp .eql 9 (xT 4) (.const (.string ⟨#[]⟩)) 9), xS 6 (xM 5), xG 7 (xM 0) 6 false, xG 8 (.index 9 (xT 7) (xI 0)) 6 false, xG 9 (xC 132 #[xT 8] #[5]) 6 false, xG 10 (xU 9) 6 false, xS 11 (xQ 6 10 true), xS 12 (xM 11), xG 13 (xM 0) 12 false, xG 14 (xN 13 9) 12 false, xG 15 (xJ .gtr 14 16) 12 false, xS 16 (xQ 12 15 true)] ⟨4, 15, []⟩ []) (.cond (.tmp 16) (.seq (.reg [xS 2 (xY false)] ⟨1, 0, []⟩ []) .ret) .skip)) (.seq (.seq (.reg [xS 3 (xZ 0)] ⟨1, 0, []⟩ []) (.block 0 (.loop (.seq (.seq (.reg [xS 17 (xM 3), xS 18 (xM 0), xS 19 (xN 18 9), xS 20 (xO .lss 17 19)] ⟨17, 19, []⟩ []) (.cond (.tmp 20) .skip (.exit 0))) (.seq (.block 1 (.seq (.reg [xS 23 (xM 0), xS 24 (xM 3), xS 25 (.index 9 (xT 23) (xT 24)), xS 26 (xC 133 #[xT 25] #[5]), xS 27 (xU 26)] ⟨23, 26, []⟩ []) (.cond (.tmp 27) (.seq (.reg [xS 2 (xY false)] ⟨1, 0, []⟩ []) .ret) .skip))) (.reg [xS 21 (xM 3), xS 22 (xJ .add 21 1), xS 3 (xP 22)] ⟨21, 22, []⟩ [])))))) (.seq (.reg [xS 2 (xY true)] ⟨1, 0, []⟩ []) .ret)))
theorem z112 : FnF Tryz.prog Tryz.f112 28 c112 [.tmp 2] := ⟨by kernel_rfl, by kernel_rfl, by kernel_rfl, by kernel_rfl, by decide⟩
instance z113 : FnI Tryz.prog 113 Tryz.f113 18 [.tmp 4] := {f := Tryz.func113, t := Tryz.ntmps113}
def c114 : AC :=
 .seq (.reg [xS 0 (.assign (.const (.slice none 0 0)))] ⟨1, 0, []⟩ []) (.seq (.reg [xS 1 (.buildSlice 22 28 #[(0, .const (.string ⟨#[97, 103, 97, 105, 110]⟩)), (1, .const (.string ⟨#[97, 110, 100]⟩)), (2, .const (.string ⟨#[97, 115]⟩)), (3, .const (.string ⟨#[97, 116]⟩)), (4, .const (.string ⟨#[99, 97, 108, 108]⟩)), (5, .const (.string ⟨#[99, 104, 111, 105, 99, 101]⟩)), (6, .const (.string ⟨#[101, 108, 115, 101]⟩)), (7, .const (.string ⟨#[102, 114, 111, 109]⟩)), (8, .const (.string ⟨#[105, 102]⟩)), (9, .const (.string ⟨#[105, 110, 116]⟩)), (10, .const (.string ⟨#[108, 101, 110]⟩)), (11, .const (.string ⟨#[108, 111, 111, 112]⟩)), (12, .const (.string ⟨#[109, 101, 115, 115, 97, 103, 101]⟩)), (13, .const (.string ⟨#[111, 102]⟩)), (14, .const (.string ⟨#[111, 102, 102, 101, 114]⟩)), (15, .const (.string ⟨#[111, 110]⟩)), (16, .const (.string ⟨#[111, 114]⟩)), (17, .const (.string ⟨#[112, 97, 114]⟩)), (18, .const (.string ⟨#[112, 108, 97, 121, 115]⟩)), (19, .const (.string ⟨#[112, 114, 111, 116, 111, 99, 111, 108]⟩)), (20, .const (.string ⟨#[115, 101, 114, 118, 105, 99, 101]⟩)), (21, .const (.string ⟨#[116, 101, 120, 116]⟩)), (22, .const (.string ⟨#[116, 105, 109, 101, 115]⟩)), (23, .const (.string ⟨#[116, 111]⟩)), (24, .const (.string ⟨#[118, 97, 114]⟩)), (25, .const (.string ⟨#[119, 104, 101, 114, 101]⟩)), (26, .const (.string ⟨#[119, 104, 105, 108, 101]⟩)), (27, .const (.string ⟨#[119, 105, 116, 104, 105, 110]⟩))]), xS 0 (xP 1)] ⟨1, 1, []⟩ []) .ret)
theorem z114 : FnF Tryz.prog Tryz.f114 2 c114 [.tmp 0] := ⟨by kernel_rfl, by kernel_rfl, by kernel_rfl, by kernel_rfl, by decide⟩
instance z115 : FnI Tryz.prog 115 Tryz.f115 20 [.tmp 2] := {f := Tryz.func115, t := Tryz.ntmps115}
instance z116 : FnI Tryz.prog 116 Tryz.f116 35 [.tmp 2] := {f := Tryz.func116, t := Tryz.ntmps116}
instance z117 : FnI Tryz.prog 117 Tryz.f117 32 [.tmp 2] := {f := Tryz.func117, t := Tryz.ntmps117}
instance z118 : FnI Tryz.prog 118 Tryz.f118 90 [.tmp 4] := {f := Tryz.func118, t := Tryz.ntmps118}
instance z119 : FnI Tryz.prog 119 Tryz.f119 44 [.tmp 6] := {f := Tryz.func119, t := Tryz.ntmps119}
def c123 : AC :=
 .seq (.reg [xS 2 (xY false)] ⟨1, 0, []⟩ []) (.seq (.seq (.reg [xS 4 (xM 0), xS 5 (.binOp .eql 9 (xT 4) (.const (.string ⟨#[]⟩)) 9), xS 6 (xM 5), xG 7 (xM 0) 6 false, xG 8 (xN 7 9) 6 false, xG 9 (xJ .gtr 8 16) 6 false, xS 10 (xQ 6 9 true), xS 11 (xM 10), xG 12 (xM 0) 11 false, xG 13 (.index 9 (xT 12) (xI 0)) 11 false, xG 14 (xC 137 #[xT 13] #[5]) 11 false, xG 15 (xU 14) 11 false, xS 16 (xQ 11 15 true)] ⟨4, 15, []⟩ []) (.cond (.tmp 16) (.seq (.reg [xS 2 (xY false)] ⟨1, 0, []⟩ []) .ret) .skip)) (.seq (.seq (.reg [xS 17 (xM 0), xS 18 (xN 17 9), xS 19 (.move (xI 0))] ⟨17, 17, []⟩ []) (.block 0 (.loop (.seq (.reg [xS 20 (xO .lss 19 18)] ⟨1, 0, []⟩ []) (.seq (.cond (.tmp 20) .skip (.exit 0)) (.seq (.block 1 (.seq (.reg [xS 21 (xM 19), xS 3 (xP 21)] ⟨21, 21, []⟩ []) (.seq (.reg [xS 22 (xM 0), xS 23 (xM 3), xS 24 (.index 9 (xT 22) (xT 23)), xS 25 (xC 138 #[xT 24] #[5]), xS 26 (xU 25)] ⟨22, 25, []⟩ []) (.cond (.tmp 26) (.seq (.reg [xS 2 (xY false)] ⟨1, 0, []⟩ []) .ret) .skip)))) (.reg [xS 27 (xJ .add 19 1), xS 19 (xM 27)] ⟨27, 27, []⟩ []))))))) (.seq (.reg [xS 2 (xY true)] ⟨1, 0, []⟩ []) .ret)))
theorem z123 : FnF Tryz.prog Tryz.f123 28 c123 [.tmp 2] := ⟨by kernel_rfl, by kernel_rfl, by kernel_rfl, by kernel_rfl, by decide⟩
instance z124 : FnI Tryz.prog 124 Tryz.f124 19 [.tmp 4] := {f := Tryz.func124, t := Tryz.ntmps124}
instance z125 : FnI Tryz.prog 125 Tryz.f125 85 [.tmp 2] := {f := Tryz.func125, t := Tryz.ntmps125}
instance z126 : FnI Tryz.prog 126 Tryz.f126 65 [.tmp 2] := {f := Tryz.func126, t := Tryz.ntmps126}
instance z127 : FnI Tryz.prog 127 Tryz.f127 30 [.tmp 4, .tmp 5] := {f := Tryz.func127, t := Tryz.ntmps127}
instance z132 : FnI Tryz.prog 132 Tryz.f132 17 [.tmp 2] := {f := Tryz.func132, t := Tryz.ntmps132}
instance z133 : FnI Tryz.prog 133 Tryz.f133 13 [.tmp 2] := {f := Tryz.func133, t := Tryz.ntmps133}
instance z134 : FnI Tryz.prog 134 Tryz.f134 5 [.tmp 2] := {f := Tryz.func134, t := Tryz.ntmps134}
instance z135 : FnI Tryz.prog 135 Tryz.f135 21 [.tmp 4] := {f := Tryz.func135, t := Tryz.ntmps135}
instance z137 : FnI Tryz.prog 137 Tryz.f137 17 [.tmp 2] := {f := Tryz.func137, t := Tryz.ntmps137}
instance z138 : FnI Tryz.prog 138 Tryz.f138 13 [.tmp 2] := {f := Tryz.func138, t := Tryz.ntmps138}
instance z139 : FnI Tryz.prog 139 Tryz.f139 18 [.tmp 2] := {f := Tryz.func139, t := Tryz.ntmps139}
def c140 : AC :=
 .seq (.reg [xS 2 (xY false)] ⟨1, 0, []⟩ []) (.seq (.reg [xS 3 (xM 0), xS 4 (xN 3 9), xS 5 (xJ .leq 4 50), xS 6 (xM 5), xG 7 (xM 0) 6 true, xG 8 (xC 154 #[xT 7, .const (.string ⟨#[46]⟩)] #[9, 9]) 6 true, xG 9 (xC 153 #[xT 8, .func 155] #[22, 135]) 6 true, xG 10 (xU 9) 6 true, xS 11 (xK 6 10 false), xS 2 (xP 11)] ⟨3, 11, []⟩ []) .ret)
theorem z140 : FnF Tryz.prog Tryz.f140 12 c140 [.tmp 2] := ⟨by kernel_rfl, by kernel_rfl, by kernel_rfl, by kernel_rfl, by decide⟩
instance z141 : FnI Tryz.prog 141 Tryz.f141 9 [.tmp 4] := {f := Tryz.func141, t := Tryz.ntmps141}
instance z142 : FnI Tryz.prog 142 Tryz.f142 9 [.tmp 3] := {f := Tryz.func142, t := Tryz.ntmps142}
instance z143 : FnI Tryz.prog 143 Tryz.f143 39 [.tmp 2] := {f := Tryz.func143, t := Tryz.ntmps143}
instance z144 : FnI Tryz.prog 144 Tryz.f144 9 [.tmp 4] := {f := Tryz.func144, t := Tryz.ntmps144}
instance z145 : FnI Tryz.prog 145 Tryz.f145 9 [.tmp 3] := {f := Tryz.func145, t := Tryz.ntmps145}
instance z146 : FnI Tryz.prog 146 Tryz.f146 85 [.tmp 4] := {f := Tryz.func146, t := Tryz.ntmps146}
instance z148 : FnI Tryz.prog 148 Tryz.f148 51 [.tmp 4, .tmp 5] := {f := Tryz.func148, t := Tryz.ntmps148}
instance z150 : FnI Tryz.prog 150 Tryz.f150 9 [.tmp 2] := {f := Tryz.func150, t := Tryz.ntmps150}
instance z151 : FnI Tryz.prog 151 Tryz.f151 37 [.cell 4 167] := {f := Tryz.func151, t := Tryz.ntmps151}
instance z152 : FnI Tryz.prog 152 Tryz.f152 9 [.tmp 2] := {f := Tryz.func152, t := Tryz.ntmps152}
instance z153 : FnI Tryz.prog 153 Tryz.f153 9 [.tmp 4] := {f := Tryz.func153, t := Tryz.ntmps153}
instance z154 : FnI Tryz.prog 154 Tryz.f154 8 [.tmp 4] := {f := Tryz.func154, t := Tryz.ntmps154}
instance z155 : FnI Tryz.prog 155 Tryz.f155 6 [.tmp 2] := {f := Tryz.func155, t := Tryz.ntmps155}
instance z156 : FnI Tryz.prog 156 Tryz.f156 19 [.tmp 4] := {f := Tryz.func156, t := Tryz.ntmps156}
instance z157 : FnI Tryz.prog 157 Tryz.f157 19 [.tmp 4] := {f := Tryz.func157, t := Tryz.ntmps157}
instance z158 : FnI Tryz.prog 158 Tryz.f158 19 [.tmp 4] := {f := Tryz.func158, t := Tryz.ntmps158}
def c159 : AC :=
 .seq (.reg [xS 8 (.assign (.const (.slice none 0 0)))] ⟨1, 0, []⟩ []) (.seq (.seq (.reg [xS 12 (xM 3), xS 13 (xJ .eql 12 0)] ⟨12, 12, []⟩ []) (.cond (.tmp 13) (.seq (.reg [xS 8 (.assign (.const (.slice none 0 0)))] ⟨1, 0, []⟩ []) .ret) .skip)) (.seq (.seq (.reg [xS 14 (xM 1), xS 15 (.binOp .eql 9 (xT 14) (.const (.string ⟨#[]⟩)) 9)] ⟨14, 14, []⟩ []) (.cond (.tmp 15) (.seq (.reg [xS 16 (xM 0), xS 17 (xM 3), xS 18 (xC 160 #[xT 16, xT 17] #[9, 3]), xS 8 (xP 18)] ⟨16, 18, []⟩ []) .ret) .skip)) (.seq (.seq (.reg [xS 19 (xM 3), xS 20 (xJ .lss 19 0)] ⟨19, 19, []⟩ []) (.cond (.tmp 20) (.reg [xS 21 (xM 0), xS 22 (xM 1), xS 23 (xC 161 #[xT 21, xT 22] #[9, 9]), xS 24 (xJ .add 23 1), xS 3 (xP 24)] ⟨21, 24, []⟩ []) .skip)) (.seq (.reg [xS 25 (xM 3), xS 26 (xM 0), xS 27 (xN 26 9), xS 28 (xJ .add 27 1), xS 29 (.call ⟨.builtin .min, #[xT 25, xT 28], #[3, 3]⟩), xS 3 (xP 29)] ⟨25, 29, []⟩ []) (.seq (.reg [xS 30 (xM 3), xS 31 (.makeSlice 22 (xT 30) (xT 30)), xS 9 (xP 31)] ⟨30, 31, []⟩ []) (.seq (.reg [xS 32 (xM 3), xS 33 (xJ .sub 32 1), xS 3 (xP 33)] ⟨32, 33, []⟩ []) (.seq (.reg [xS 10 (xZ 0)] ⟨1, 0, []⟩ []) (.seq (.block 0 (.loop (.seq (.seq (.reg [xS 34 (xM 10), xS 35 (xM 3), xS 36 (xO .lss 34 35)] ⟨34, 35, []⟩ []) (.cond (.tmp 36) .skip (.exit 0))) (.block 1 (.seq (.reg [xS 37 (xM 0), xS 38 (xM 1), xS 39 (xC 162 #[xT 37, xT 38] #[9, 9]), xS 11 (xP 39)] ⟨37, 39, []⟩ []) (.seq (.seq (.reg [xS 40 (xM 11), xS 41 (xJ .lss 40 0)] ⟨40, 40, []⟩ []) (.cond (.tmp 41) (.exit 0) .skip)) (.seq (.reg [xS 42 (xM 9), xS 43 (xM 10), xS 44 (xM 0), xS 45 (xM 11), xS 46 (xM 2), xS 47 (xO .add 45 46), xS 48 (.slice 9 (xT 44) none (some (xT 47)) none), xS 49 (xA 22 42 43), x0 (xW 9 49 48)] ⟨42, 49, []⟩ []) (.seq (.reg [xS 50 (xM 0), xS 51 (xM 11), xS 52 (xM 1), xS 53 (xN 52 9), xS 54 (xO .add 51 53), xS 55 (.slice 9 (xT 50) (some (xT 54)) none none), xS 0 (xP 55)] ⟨50, 55, []⟩ []) (.reg [xS 56 (xM 10), xS 57 (xJ .add 56 1), xS 10 (xP 57)] ⟨56, 57, []⟩ []))))))))) (.seq (.reg [xS 58 (xM 9), xS 59 (xM 10), xS 60 (xM 0), xS 61 (xA 22 58 59), x0 (xW 9 61 60)] ⟨58, 61, []⟩ []) (.seq (.reg [xS 62 (xM 9), xS 63 (xM 10), xS 64 (xJ .add 63 1), xS 65 (.slice 22 (xT 62) none (some (xT 64)) none), xS 8 (xP 65)] ⟨62, 65, []⟩ []) .ret))))))))))
theorem z159 : FnF Tryz.prog Tryz.f159 66 c159 [.tmp 8] := ⟨by kernel_rfl, by kernel_rfl, by kernel_rfl, by kernel_rfl, by decide⟩
end Go.Av
