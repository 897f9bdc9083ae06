/- Part of a proof. -/
/- PRINTED 9 94 100 104 114 119 125 127 131 159 -/
import Derived.Test.YticeobjphcmggaaGreatDoorAvR
import Derived.Test.YticeobjphcmggaaGreatDoorProg
set_option linter.unusedVariables false
set_option linter.unusedSimpArgs false
set_option maxHeartbeats 64000000
namespace Go.Av
open Go Go.RowKit Go.Proofs
def xS (d : Nat) (o : Op) : SOp := ⟨some d, o, none⟩
def xG (d : Nat) (o : Op) (g : Nat) (b : Bool) : SOp := ⟨some d, o, some (g, b)⟩
def x0 (o : Op) : SOp := ⟨none, o, none⟩
def xT (n : Nat) : Operand := .tmp n
def xI (n : Int) : Operand := .const (.int .i64 n)
def xL (t n : Nat) : Op := .load t (.tmp n)
def xM (n : Nat) : Op := .move (.tmp n)
def xF (t n f : Nat) : Op := .fieldAddr t (.tmp n) f
def xA (t n i : Nat) : Op := .indexAddr t (.tmp n) (.tmp i)
def xW (t n v : Nat) : Op := .store t (.tmp n) (.tmp v)
def xP (n : Nat) : Op := .assign (.tmp n)
def xB (b : Bool) : Operand := .const (.bool b)
def xC (f : Nat) (a : Array Operand) (t : Array TypeId) : Op := .call ⟨.value (.func f), a, t⟩
def xN (n t : Nat) : Op := .call ⟨.builtin .len, #[.tmp n], #[t]⟩
def xE (n i : Nat) : Op := .extract (.tmp n) i
def xU (n : Nat) : Op := .unOp .not 4 (.tmp n)
def xO (o : BinOp) (n m : Nat) : Op := .binOp o 3 (.tmp n) (.tmp m) 3
def xJ (o : BinOp) (n : Nat) (m : Int) : Op := .binOp o 3 (.tmp n) (.const (.int .i64 m)) 3
def xK (c n : Nat) (b : Bool) : Op := .pick (.tmp c) (.tmp n) (.const (.bool b))
def xQ (c n : Nat) (b : Bool) : Op := .pick (.tmp c) (.const (.bool b)) (.tmp n)
def xZ (n : Int) : Op := .assign (.const (.int .i64 n))
def xY (b : Bool) : Op := .assign (.const (.bool b))
attribute [go_sem] xS xG x0 xT xI xL xM xF xA xW xP xB xC xN xE xU xO xJ xK xQ xZ xY

/-- What is known of a function's text. -/
structure FnF (P : Program) (f : Func) (m : Nat) (c : AC) (rs : List ResultVar) : Prop where
  b : f.body = some (f.body.getD .skip)
  e : slim (f.body.getD .skip) = c
  d : textOk P m (f.body.getD .skip) = true
  r : f.results.toList = rs
  n : f.name ≠ "runtime.NumGoroutine"
theorem impl_z {P : Program} {f : FuncId} {fn : Func} {ac : AC} {rl : List ResultVar} (hf : P.funcs[f]? = some fn) {N : Nat} (z : FnF P fn N ac rl) (hN0 : fn.ntmps = N) {args : List SV} {r : RV} (hN : args.length ≤ N) (h : awp P ac (endsIn P rl r) (slotsOf 0 args)) : Impl P f args r :=
  impl_intro hf z.b z.e z.r z.n hN0 z.d hN fun _ => h
instance z3 : FnI Tryz.prog 3 Tryz.f3 38 [.tmp 4] := {f := Tryz.func3, t := Tryz.ntmps3}
instance z5 : FnI Tryz.prog 5 Tryz.f5 21 [.tmp 4] := {f := Tryz.func5, t := Tryz.ntmps5}
instance z7 : FnI Tryz.prog 7 Tryz.f7 51 [.tmp 6] := {f := Tryz.func7, t := Tryz.ntmps7}
def c9 : AC :=
 .seq (.reg [xS 0 (xY false)] ⟨1, 0, []⟩ []) (.seq (.reg [xS 7 (.buildSlice 22 3 #[(0, .const (.string ⟨#[65]⟩)), (1, .const (.string ⟨#[66]⟩)), (2, .const (.string ⟨#[67]⟩))]), xS 8 (.build 61 #[(0, .const (.string ⟨#[120]⟩))]), xS 9 (.build 61 #[(0, .const (.string ⟨#[121]⟩))]), xS 10 (.buildSlice 23 2 #[(0, xT 8), (1, xT 9)]), xS 11 (.build 47 #[(1, .const (.int .i64 1))]), xS 12 (.build 49 #[(1, xT 11), (2, .const (.int .i64 1))]), xS 13 (.build 47 #[(1, .const (.int .i64 2)), (2, .const (.int .i64 1))]), xS 14 (.build 49 #[(0, .const (.int .i64 1)), (1, xT 13), (2, .const (.int .i64 2))]), xS 15 (.buildSlice 24 2 #[(0, xT 12), (1, xT 14)]), xS 16 (.build 27 #[(0, .const (.string ⟨#[80]⟩)), (1, xT 7), (2, xT 10), (3, .const (.int .i64 3)), (5, .const (.int .i64 2)), (6, xT 15)]), xS 1 (.alloc 27), x0 (xW 27 1 16)] ⟨7, 16, []⟩ []) (.seq (.reg [xS 17 (.build 64 #[(1, xB true), (2, .const (.int .i64 1))]), xS 18 (.buildSlice 37 1 #[(0, xT 17)]), xS 19 (.build 64 #[(0, .const (.int .i64 2)), (3, .const (.int .i64 1))]), xS 20 (.buildSlice 37 1 #[(0, xT 19)]), xS 21 (.buildSlice 28 3 #[(0, xT 18), (1, .const (.slice none 0 0)), (2, xT 20)]), xS 2 (xP 21)] ⟨17, 21, []⟩ []) (.seq (.reg [xS 23 (xL 27 1), xS 24 (xM 2), xS 25 (xC 11 #[xT 23, xT 24] #[27, 28]), xS 22 (xM 25), xS 26 (xE 22 0), xS 27 (xE 22 1), xS 3 (xP 26), xS 4 (xP 27)] ⟨22, 27, []⟩ []) (.seq (.reg [xS 29 (xL 27 1), xS 30 (xM 2), xS 31 (xC 14 #[xT 29, xT 30, .const (.int .i64 0)] #[27, 28, 3]), xS 28 (xM 31), xS 32 (xE 28 0), xS 33 (xE 28 1), xS 5 (xP 32), xS 6 (xP 33)] ⟨28, 33, []⟩ []) (.seq (.reg [xS 34 (xM 4), xS 35 (.binOp .eql 32 (xT 34) (xI 0) 32), xS 36 (xM 35), xG 37 (xM 3) 36 true, xG 38 (xN 37 31) 36 true, xG 39 (xJ .eql 38 2) 36 true, xS 40 (xK 36 39 false), xS 41 (xM 40), xG 42 (xM 6) 41 true, xG 43 (.binOp .eql 32 (xT 42) (xI 0) 32) 41 true, xS 44 (xK 41 43 false), xS 45 (xM 44), xG 46 (xM 5) 45 true, xG 47 (xN 46 37) 45 true, xG 48 (xJ .eql 47 1) 45 true, xS 49 (xK 45 48 false), xS 50 (xM 49), xG 51 (xM 5) 50 true, xG 52 (.indexAddr 37 (xT 51) (xI 0)) 50 true, xG 53 (xF 64 52 1) 50 true, xG 54 (xL 4 53) 50 true, xS 55 (xK 50 54 false), xS 56 (xM 55), xG 57 (xM 5) 56 true, xG 58 (.indexAddr 37 (xT 57) (xI 0)) 56 true, xG 59 (xF 64 58 2) 56 true, xG 60 (xL 3 59) 56 true, xG 61 (xJ .eql 60 2) 56 true, xS 62 (xK 56 61 false), xS 63 (xM 62), xG 64 (xM 5) 63 true, xG 65 (.indexAddr 37 (xT 64) (xI 0)) 63 true, xG 66 (xF 64 65 3) 63 true, xG 67 (xL 3 66) 63 true, xG 68 (xJ .eql 67 1) 63 true, xS 69 (xK 63 68 false), xS 70 (xM 69), xG 71 (xL 27 1) 70 true, xG 72 (xM 2) 70 true, xG 73 (xC 17 #[xT 71, xT 72] #[27, 28]) 70 true, xG 74 (.binOp .eql 32 (xT 73) (xI 23) 32) 70 true, xS 75 (xK 70 74 false), xS 0 (xP 75)] ⟨34, 75, []⟩ []) .ret)))))
theorem z9 : FnF Tryz.prog Tryz.f9 76 c9 [.tmp 0] := ⟨by kernel_rfl, by kernel_rfl, by kernel_rfl, by kernel_rfl, by decide⟩
instance z10 : FnI Tryz.prog 10 Tryz.f10 44 [.tmp 6] := {f := Tryz.func10, t := Tryz.ntmps10}
instance z11 : FnI Tryz.prog 11 Tryz.f11 35 [.tmp 4, .tmp 5] := {f := Tryz.func11, t := Tryz.ntmps11}
instance z12 : FnI Tryz.prog 12 Tryz.f12 40 [.tmp 4, .tmp 5] := {f := Tryz.func12, t := Tryz.ntmps12}
instance z13 : FnI Tryz.prog 13 Tryz.f13 26 [.tmp 4] := {f := Tryz.func13, t := Tryz.ntmps13}
instance z14 : FnI Tryz.prog 14 Tryz.f14 109 [.tmp 6, .tmp 7] := {f := Tryz.func14, t := Tryz.ntmps14}
instance z17 : FnI Tryz.prog 17 Tryz.f17 67 [.tmp 4] := {f := Tryz.func17, t := Tryz.ntmps17}
instance z18 : FnI Tryz.prog 18 Tryz.f18 44 [.tmp 4] := {f := Tryz.func18, t := Tryz.ntmps18}
instance z20 : FnI Tryz.prog 20 Tryz.f20 42 [.tmp 4] := {f := Tryz.func20, t := Tryz.ntmps20}
instance z21 : FnI Tryz.prog 21 Tryz.f21 40 [.tmp 4] := {f := Tryz.func21, t := Tryz.ntmps21}
instance z22 : FnI Tryz.prog 22 Tryz.f22 56 [.tmp 2, .tmp 3] := {f := Tryz.func22, t := Tryz.ntmps22}
instance z25 : FnI Tryz.prog 25 Tryz.f25 29 [.tmp 2] := {f := Tryz.func25, t := Tryz.ntmps25}
instance z26 : FnI Tryz.prog 26 Tryz.f26 202 [.tmp 4, .tmp 5] := {f := Tryz.func26, t := Tryz.ntmps26}
instance z27 : FnI Tryz.prog 27 Tryz.f27 19 [.tmp 4] := {f := Tryz.func27, t := Tryz.ntmps27}
instance z28 : FnI Tryz.prog 28 Tryz.f28 106 [.tmp 4, .tmp 5] := {f := Tryz.func28, t := Tryz.ntmps28}
instance z29 : FnI Tryz.prog 29 Tryz.f29 9 [.tmp 4] := {f := Tryz.func29, t := Tryz.ntmps29}
instance z30 : FnI Tryz.prog 30 Tryz.f30 8 [.tmp 3] := {f := Tryz.func30, t := Tryz.ntmps30}
instance z31 : FnI Tryz.prog 31 Tryz.f31 8 [.tmp 2] := {f := Tryz.func31, t := Tryz.ntmps31}
instance z32 : FnI Tryz.prog 32 Tryz.f32 8 [.tmp 2] := {f := Tryz.func32, t := Tryz.ntmps32}
instance z34 : FnI Tryz.prog 34 Tryz.f34 131 [.tmp 8] := {f := Tryz.func34, t := Tryz.ntmps34}
instance z35 : FnI Tryz.prog 35 Tryz.f35 131 [.tmp 8] := {f := Tryz.func35, t := Tryz.ntmps35}
instance z36 : FnI Tryz.prog 36 Tryz.f36 47 [.tmp 8] := {f := Tryz.func36, t := Tryz.ntmps36}
instance z37 : FnI Tryz.prog 37 Tryz.f37 38 [.tmp 2] := {f := Tryz.func37, t := Tryz.ntmps37}
instance z39 : FnI Tryz.prog 39 Tryz.f39 47 [.tmp 2] := {f := Tryz.func39, t := Tryz.ntmps39}
instance z40 : FnI Tryz.prog 40 Tryz.f40 33 [.tmp 6] := {f := Tryz.func40, t := Tryz.ntmps40}
instance z41 : FnI Tryz.prog 41 Tryz.f41 20 [.tmp 4] := {f := Tryz.func41, t := Tryz.ntmps41}
instance z42 : FnI Tryz.prog 42 Tryz.f42 26 [.tmp 4] := {f := Tryz.func42, t := Tryz.ntmps42}
instance z45 : FnI Tryz.prog 45 Tryz.f45 42 [.tmp 2] := {f := Tryz.func45, t := Tryz.ntmps45}
instance z46 : FnI Tryz.prog 46 Tryz.f46 57 [.tmp 4] := {f := Tryz.func46, t := Tryz.ntmps46}
instance z47 : FnI Tryz.prog 47 Tryz.f47 29 [.tmp 4] := {f := Tryz.func47, t := Tryz.ntmps47}
instance z48 : FnI Tryz.prog 48 Tryz.f48 28 [] := {f := Tryz.func48, t := Tryz.ntmps48}
instance z49 : FnI Tryz.prog 49 Tryz.f49 40 [.tmp 10, .tmp 11] := {f := Tryz.func49, t := Tryz.ntmps49}
instance z50 : FnI Tryz.prog 50 Tryz.f50 21 [.tmp 2] := {f := Tryz.func50, t := Tryz.ntmps50}
instance z51 : FnI Tryz.prog 51 Tryz.f51 53 [.tmp 2] := {f := Tryz.func51, t := Tryz.ntmps51}
instance z52 : FnI Tryz.prog 52 Tryz.f52 23 [.tmp 4] := {f := Tryz.func52, t := Tryz.ntmps52}
instance z53 : FnI Tryz.prog 53 Tryz.f53 49 [.tmp 4] := {f := Tryz.func53, t := Tryz.ntmps53}
instance z54 : FnI Tryz.prog 54 Tryz.f54 103 [.cell 10 98, .tmp 11] := {f := Tryz.func54, t := Tryz.ntmps54}
instance z55 : FnI Tryz.prog 55 Tryz.f55 29 [.tmp 4] := {f := Tryz.func55, t := Tryz.ntmps55}
instance z56 : FnI Tryz.prog 56 Tryz.f56 19 [.tmp 4] := {f := Tryz.func56, t := Tryz.ntmps56}
instance z57 : FnI Tryz.prog 57 Tryz.f57 30 [.tmp 8, .tmp 9] := {f := Tryz.func57, t := Tryz.ntmps57}
instance z58 : FnI Tryz.prog 58 Tryz.f58 31 [.tmp 6, .tmp 7] := {f := Tryz.func58, t := Tryz.ntmps58}
instance z59 : FnI Tryz.prog 59 Tryz.f59 26 [.tmp 4] := {f := Tryz.func59, t := Tryz.ntmps59}
instance z60 : FnI Tryz.prog 60 Tryz.f60 36 [.tmp 8] := {f := Tryz.func60, t := Tryz.ntmps60}
instance z61 : FnI Tryz.prog 61 Tryz.f61 6 [.tmp 2] := {f := Tryz.func61, t := Tryz.ntmps61}
instance z62 : FnI Tryz.prog 62 Tryz.f62 37 [.tmp 4] := {f := Tryz.func62, t := Tryz.ntmps62}
instance z63 : FnI Tryz.prog 63 Tryz.f63 26 [.tmp 4] := {f := Tryz.func63, t := Tryz.ntmps63}
instance z64 : FnI Tryz.prog 64 Tryz.f64 41 [.tmp 8] := {f := Tryz.func64, t := Tryz.ntmps64}
instance z65 : FnI Tryz.prog 65 Tryz.f65 38 [.tmp 6, .tmp 7] := {f := Tryz.func65, t := Tryz.ntmps65}
instance z66 : FnI Tryz.prog 66 Tryz.f66 36 [.tmp 8, .tmp 9] := {f := Tryz.func66, t := Tryz.ntmps66}
instance z67 : FnI Tryz.prog 67 Tryz.f67 41 [.tmp 2] := {f := Tryz.func67, t := Tryz.ntmps67}
instance z68 : FnI Tryz.prog 68 Tryz.f68 96 [.tmp 2] := {f := Tryz.func68, t := Tryz.ntmps68}
instance z69 : FnI Tryz.prog 69 Tryz.f69 15 [.tmp 2] := {f := Tryz.func69, t := Tryz.ntmps69}
instance z70 : FnI Tryz.prog 70 Tryz.f70 98 [.tmp 2] := {f := Tryz.func70, t := Tryz.ntmps70}
instance z71 : FnI Tryz.prog 71 Tryz.f71 64 [.tmp 2] := {f := Tryz.func71, t := Tryz.ntmps71}
instance z72 : FnI Tryz.prog 72 Tryz.f72 9 [.tmp 4] := {f := Tryz.func72, t := Tryz.ntmps72}
instance z73 : FnI Tryz.prog 73 Tryz.f73 67 [.tmp 6] := {f := Tryz.func73, t := Tryz.ntmps73}
instance z74 : FnI Tryz.prog 74 Tryz.f74 6 [.tmp 2] := {f := Tryz.func74, t := Tryz.ntmps74}
instance z79 : FnI Tryz.prog 79 Tryz.f79 9 [] := {f := Tryz.func79, t := Tryz.ntmps79}
instance z80 : FnI Tryz.prog 80 Tryz.f80 32 [.tmp 5] := {f := Tryz.func80, t := Tryz.ntmps80}
instance z81 : FnI Tryz.prog 81 Tryz.f81 18 [.tmp 2] := {f := Tryz.func81, t := Tryz.ntmps81}
instance z82 : FnI Tryz.prog 82 Tryz.f82 50 [.tmp 2] := {f := Tryz.func82, t := Tryz.ntmps82}
instance z83 : FnI Tryz.prog 83 Tryz.f83 109 [.tmp 2] := {f := Tryz.func83, t := Tryz.ntmps83}
instance z84 : FnI Tryz.prog 84 Tryz.f84 97 [.tmp 2] := {f := Tryz.func84, t := Tryz.ntmps84}
instance z85 : FnI Tryz.prog 85 Tryz.f85 82 [.tmp 2] := {f := Tryz.func85, t := Tryz.ntmps85}
instance z86 : FnI Tryz.prog 86 Tryz.f86 82 [.tmp 2] := {f := Tryz.func86, t := Tryz.ntmps86}
instance z87 : FnI Tryz.prog 87 Tryz.f87 44 [.tmp 6] := {f := Tryz.func87, t := Tryz.ntmps87}
instance z88 : FnI Tryz.prog 88 Tryz.f88 40 [.tmp 10] := {f := Tryz.func88, t := Tryz.ntmps88}
instance z89 : FnI Tryz.prog 89 Tryz.f89 51 [.tmp 6] := {f := Tryz.func89, t := Tryz.ntmps89}
instance z90 : FnI Tryz.prog 90 Tryz.f90 28 [.tmp 4] := {f := Tryz.func90, t := Tryz.ntmps90}
instance z91 : FnI Tryz.prog 91 Tryz.f91 17 [.tmp 6] := {f := Tryz.func91, t := Tryz.ntmps91}
instance z92 : FnI Tryz.prog 92 Tryz.f92 93 [.tmp 4] := {f := Tryz.func92, t := Tryz.ntmps92}
instance z93 : FnI Tryz.prog 93 Tryz.f93 20 [.tmp 2] := {f := Tryz.func93, t := Tryz.ntmps93}
def c94 : AC :=
 .seq (.reg [xS 2 (.box 132 (xT 0)), xS 3 (.box 111 (xT 1)), xS 4 (xY false)] ⟨1, 0, []⟩ []) (.seq (.seq (.reg [xS 5 (xZ 0)] ⟨1, 0, []⟩ []) (.block 0 (.loop (.seq (.seq (.reg [xS 6 (xM 5), xS 7 (xF 111 3 2), xS 8 (xL 9 7), xS 9 (xN 8 9), xS 10 (xO .lss 6 9)] ⟨6, 9, []⟩ []) (.cond (.tmp 10) .skip (.exit 0))) (.seq (.block 1 (.seq (.reg [xS 13 (xF 111 3 2), xS 14 (xL 9 13), xS 15 (xM 5), xS 16 (.index 9 (xT 14) (xT 15)), xS 17 (.binOp .lss 5 (xT 16) (.const (.int .u8 32)) 5), xS 18 (xM 17), xG 19 (xF 111 3 2) 18 false, xG 20 (xL 9 19) 18 false, xG 21 (xM 5) 18 false, xG 22 (.index 9 (xT 20) (xT 21)) 18 false, xG 23 (.binOp .gtr 5 (xT 22) (.const (.int .u8 126)) 5) 18 false, xS 24 (xQ 18 23 true)] ⟨13, 23, []⟩ []) (.cond (.tmp 24) (.seq (.reg [xS 4 (xY false)] ⟨1, 0, []⟩ []) .ret) .skip))) (.reg [xS 11 (xM 5), xS 12 (xJ .add 11 1), xS 5 (xP 12)] ⟨11, 12, []⟩ [])))))) (.seq (.seq (.reg [xS 25 (xF 111 3 0), xS 26 (xL 3 25), xS 27 (xJ .eql 26 2), xS 28 (xM 27), xG 29 (xF 111 3 1) 28 true, xG 30 (xL 3 29) 28 true, xG 31 (xJ .neq 30 0) 28 true, xS 32 (xK 28 31 false), xS 33 (xM 32), xG 34 (xF 111 3 0) 33 false, xG 35 (xL 3 34) 33 false, xG 36 (xJ .eql 35 1) 33 false, xG 37 (xM 36) 33 false, xG 38 (xF 111 3 2) 37 true, xG 39 (xL 9 38) 37 true, xG 40 (.binOp .neq 9 (xT 39) (.const (.string ⟨#[]⟩)) 9) 37 true, xG 41 (xK 37 40 false) 33 false, xS 42 (xQ 33 41 true)] ⟨25, 41, []⟩ []) (.cond (.tmp 42) (.seq (.reg [xS 4 (xY false)] ⟨1, 0, []⟩ []) .ret) .skip)) (.seq (.drw [⟨xS 43 (xF 111 3 0), []⟩, ⟨xS 44 (xL 3 43), [43]⟩, ⟨xS 45 (xF 132 2 0), []⟩, ⟨xS 46 (xL 3 45), [45]⟩, ⟨xS 47 (xO .eql 44 46), [44, 43, 46, 45]⟩, ⟨xS 48 (xM 47), [47, 44, 43, 46, 45]⟩, ⟨xG 49 (xL 111 3) 48 true, [48, 47, 44, 43, 46, 45]⟩, ⟨xG 50 (xC 117 #[xT 49] #[111]) 48 true, [49, 48, 47, 44, 43, 46, 45]⟩, ⟨xG 51 (xF 132 2 1) 48 true, [48, 47, 44, 43, 46, 45]⟩, ⟨xG 52 (xL 3 51) 48 true, [51, 48, 47, 44, 43, 46, 45]⟩, ⟨xG 53 (xO .geq 50 52) 48 true, [50, 49, 52, 51, 48, 47, 44, 43, 46, 45]⟩, ⟨xS 54 (xK 48 53 false), [53, 50, 49, 52, 51, 48, 47, 44, 43, 46, 45]⟩, ⟨xS 55 (xM 54), [54, 53, 50, 49, 52, 51, 48, 47, 44, 43, 46, 45]⟩, ⟨xG 56 (xL 111 3) 55 true, [55, 54, 53, 50, 49, 52, 51, 48, 47, 44, 43, 46, 45]⟩, ⟨xG 57 (xC 117 #[xT 56] #[111]) 55 true, [56, 55, 54, 53, 50, 49, 52, 51, 48, 47, 44, 43, 46, 45]⟩, ⟨xG 58 (xF 132 2 2) 55 true, [55, 54, 53, 50, 49, 52, 51, 48, 47, 44, 43, 46, 45]⟩, ⟨xG 59 (xL 3 58) 55 true, [58, 55, 54, 53, 50, 49, 52, 51, 48, 47, 44, 43, 46, 45]⟩, ⟨xG 60 (xO .leq 57 59) 55 true, [57, 56, 59, 58, 55, 54, 53, 50, 49, 52, 51, 48, 47, 44, 43, 46, 45]⟩, ⟨xS 61 (xK 55 60 false), [60, 57, 56, 59, 58, 55, 54, 53, 50, 49, 52, 51, 48, 47, 44, 43, 46, 45]⟩] [⟨xS 4 (xP 61), [61, 60, 57, 56, 59, 58, 55, 54, 53, 50, 49, 52, 51, 48, 47, 44, 43, 46, 45], []⟩] ⟨43, 61, []⟩ ⟨43, 61, []⟩ []) .ret)))
theorem z94 : FnF Tryz.prog Tryz.f94 62 c94 [.tmp 4] := ⟨by kernel_rfl, by kernel_rfl, by kernel_rfl, by kernel_rfl, by decide⟩
instance z95 : FnI Tryz.prog 95 Tryz.f95 17 [.tmp 4] := {f := Tryz.func95, t := Tryz.ntmps95}
instance z96 : FnI Tryz.prog 96 Tryz.f96 35 [.tmp 4] := {f := Tryz.func96, t := Tryz.ntmps96}
instance z97 : FnI Tryz.prog 97 Tryz.f97 37 [.tmp 4] := {f := Tryz.func97, t := Tryz.ntmps97}
instance z98 : FnI Tryz.prog 98 Tryz.f98 116 [.tmp 4] := {f := Tryz.func98, t := Tryz.ntmps98}
instance z99 : FnI Tryz.prog 99 Tryz.f99 29 [.tmp 6] := {f := Tryz.func99, t := Tryz.ntmps99}
def c100 : AC :=
 .seq (.reg [xS 2 (xY false)] ⟨1, 0, []⟩ []) (.seq (.reg [xS 4 (.build 158 #[(0, .const (.string ⟨#[97, 103, 97, 105, 110]⟩)), (1, .const (.string ⟨#[97, 110, 100]⟩)), (2, .const (.string ⟨#[97, 115]⟩)), (3, .const (.string ⟨#[97, 116]⟩)), (4, .const (.string ⟨#[99, 97, 108, 108]⟩)), (5, .const (.string ⟨#[99, 104, 111, 105, 99, 101]⟩)), (6, .const (.string ⟨#[101, 108, 115, 101]⟩)), (7, .const (.string ⟨#[102, 114, 111, 109]⟩)), (8, .const (.string ⟨#[105, 102]⟩)), (9, .const (.string ⟨#[105, 110, 116]⟩)), (10, .const (.string ⟨#[108, 101, 110]⟩)), (11, .const (.string ⟨#[108, 111, 111, 112]⟩)), (12, .const (.string ⟨#[109, 101, 115, 115, 97, 103, 101]⟩)), (13, .const (.string ⟨#[111, 102]⟩)), (14, .const (.string ⟨#[111, 102, 102, 101, 114]⟩)), (15, .const (.string ⟨#[111, 110]⟩)), (16, .const (.string ⟨#[111, 114]⟩)), (17, .const (.string ⟨#[112, 97, 114]⟩)), (18, .const (.string ⟨#[112, 108, 97, 121, 115]⟩)), (19, .const (.string ⟨#[112, 114, 111, 116, 111, 99, 111, 108]⟩)), (20, .const (.string ⟨#[115, 101, 114, 118, 105, 99, 101]⟩)), (21, .const (.string ⟨#[116, 101, 120, 116]⟩)), (22, .const (.string ⟨#[116, 105, 109, 101, 115]⟩)), (23, .const (.string ⟨#[116, 111]⟩)), (24, .const (.string ⟨#[118, 97, 114]⟩)), (25, .const (.string ⟨#[119, 104, 101, 114, 101]⟩)), (26, .const (.string ⟨#[119, 104, 105, 108, 101]⟩)), (27, .const (.string ⟨#[119, 105, 116, 104, 105, 110]⟩))]), xS 3 (.alloc 158), x0 (xW 158 3 4)] ⟨4, 4, []⟩ []) (.seq (.reg [xS 5 (xM 0), xS 6 (xC 119 #[xT 5] #[9]), xS 7 (xM 6), xG 8 (.slice 158 (xT 3) none none none) 7 true, xG 9 (xM 0) 7 true, xG 10 (xC 101 #[xT 8, xT 9] #[22, 9]) 7 true, xG 11 (xU 10) 7 true, xS 12 (xK 7 11 false), xS 2 (xP 12)] ⟨5, 12, []⟩ []) .ret))
theorem z100 : FnF Tryz.prog Tryz.f100 13 c100 [.tmp 2] := ⟨by kernel_rfl, by kernel_rfl, by kernel_rfl, by kernel_rfl, by decide⟩
instance z101 : FnI Tryz.prog 101 Tryz.f101 9 [.tmp 4] := {f := Tryz.func101, t := Tryz.ntmps101}
instance z102 : FnI Tryz.prog 102 Tryz.f102 24 [.tmp 4, .tmp 5] := {f := Tryz.func102, t := Tryz.ntmps102}
instance z103 : FnI Tryz.prog 103 Tryz.f103 19 [.tmp 4] := {f := Tryz.func103, t := Tryz.ntmps103}
def c104 : AC :=
 .seq (.reg [xS 4 (.assign (.const (.slice none 0 0)))] ⟨1, 0, []⟩ []) (.seq (.seq (.reg [xS 9 (xM 1), xS 10 (xJ .lss 9 0)] ⟨9, 9, []⟩ []) (.cond (.tmp 10) (.reg [xS 11 (.makeInterface 9 (.const (.string ⟨#[99, 97, 110, 110, 111, 116, 32, 98, 101, 32, 110, 101, 103, 97, 116, 105, 118, 101]⟩))), x0 (.panic (xT 11))] ⟨11, 11, []⟩ []) .skip)) (.seq (.reg [xS 13 (xM 0), xS 14 (xN 13 66), xS 15 (.convert 3 160 (xT 14)), xS 16 (xM 1), xS 17 (.convert 3 160 (xT 16)), xS 18 (xC 122 #[xT 15, xT 17] #[160, 160]), xS 12 (xM 18), xS 19 (xE 12 0), xS 20 (xE 12 1), xS 5 (xP 19), xS 6 (xP 20)] ⟨12, 20, []⟩ []) (.seq (.seq (.reg [xS 21 (xM 5), xS 22 (.binOp .gtr 160 (xT 21) (.const (.int .u64 0)) 160), xS 23 (xM 22), xG 24 (xM 6) 23 false, xG 25 (.binOp .gtr 160 (xT 24) (.const (.int .u64 9223372036854775807)) 160) 23 false, xS 26 (xQ 23 25 true)] ⟨21, 25, []⟩ []) (.cond (.tmp 26) (.reg [xS 27 (.makeInterface 9 (.const (.string ⟨#[116, 104, 101, 32, 114, 101, 115, 117, 108, 116, 32, 111, 102, 32, 40, 108, 101, 110, 40, 120, 41, 32, 42, 32, 99, 111, 117, 110, 116, 41, 32, 111, 118, 101, 114, 102, 108, 111, 119, 115]⟩))), x0 (.panic (xT 27))] ⟨27, 27, []⟩ []) .skip)) (.seq (.reg [xS 28 (xM 6), xS 29 (.convert 160 3 (xT 28)), xS 30 (.makeSlice 66 (xT 29) (xT 29)), xS 7 (xP 30)] ⟨28, 30, []⟩ []) (.seq (.reg [xS 31 (xM 7), xS 32 (xM 0), xS 33 (.call ⟨.builtin .copy, #[xT 31, xT 32], #[66, 66]⟩), xS 8 (xP 33)] ⟨31, 33, []⟩ []) (.seq (.block 0 (.loop (.seq (.seq (.reg [xS 34 (xM 8), xS 35 (xM 7), xS 36 (xN 35 66), xS 37 (xO .lss 34 36)] ⟨34, 36, []⟩ []) (.cond (.tmp 37) .skip (.exit 0))) (.block 1 (.drw [⟨xS 38 (xM 8), []⟩, ⟨xS 39 (xM 7), []⟩, ⟨xS 40 (xM 8), []⟩, ⟨xS 41 (.slice 66 (xT 39) (some (xT 40)) none none), [39, 40]⟩, ⟨xS 42 (xM 7), []⟩, ⟨xS 43 (xM 8), []⟩, ⟨xS 44 (.slice 66 (xT 42) none (some (xT 43)) none), [42, 43]⟩] [⟨xS 45 (.call ⟨.builtin .copy, #[xT 41, xT 44], #[66, 66]⟩), [41, 39, 40, 44, 42, 43], [true, false, false, false, false, false, false]⟩, ⟨xS 46 (xO .add 38 45), [38], []⟩, ⟨xS 8 (xP 46), [], []⟩] ⟨38, 44, []⟩ ⟨38, 46, []⟩ []))))) (.seq (.reg [xS 47 (xM 7), xS 4 (xP 47)] ⟨47, 47, []⟩ []) .ret)))))))
theorem z104 : FnF Tryz.prog Tryz.f104 48 c104 [.tmp 4] := ⟨by kernel_rfl, by kernel_rfl, by kernel_rfl, by kernel_rfl, by decide⟩
instance z106 : FnI Tryz.prog 106 Tryz.f106 63 [] := {f := Tryz.func106, t := Tryz.ntmps106}
instance z107 : FnI Tryz.prog 107 Tryz.f107 11 [.tmp 2] := {f := Tryz.func107, t := Tryz.ntmps107}
instance z108 : FnI Tryz.prog 108 Tryz.f108 19 [.tmp 4] := {f := Tryz.func108, t := Tryz.ntmps108}
instance z109 : FnI Tryz.prog 109 Tryz.f109 111 [.tmp 2] := {f := Tryz.func109, t := Tryz.ntmps109}
instance z110 : FnI Tryz.prog 110 Tryz.f110 13 [.tmp 4] := {f := Tryz.func110, t := Tryz.ntmps110}
instance z111 : FnI Tryz.prog 111 Tryz.f111 64 [.tmp 2] := {f := Tryz.func111, t := Tryz.ntmps111}
instance z112 : FnI Tryz.prog 112 Tryz.f112 85 [.tmp 2] := {f := Tryz.func112, t := Tryz.ntmps112}
instance z113 : FnI Tryz.prog 113 Tryz.f113 18 [.tmp 2] := {f := Tryz.func113, t := Tryz.ntmps113}
def c114 : AC :=
 .seq (.reg [xS 2 (.box 132 (xT 0)), xS 3 (.box 111 (xT 1)), xS 4 (xY false)] ⟨1, 0, []⟩ []) (.seq (.seq (.drw [⟨xS 5 (xF 111 3 0), []⟩, ⟨xS 6 (xL 3 5), [5]⟩, ⟨xS 7 (xF 132 2 0), []⟩, ⟨xS 8 (xL 3 7), [7]⟩, ⟨xS 9 (xO .neq 6 8), [6, 5, 8, 7]⟩, ⟨xS 10 (xM 9), [9, 6, 5, 8, 7]⟩, ⟨xG 11 (xL 111 3) 10 false, [10, 9, 6, 5, 8, 7]⟩, ⟨xG 12 (xC 116 #[xT 11] #[111]) 10 false, [11, 10, 9, 6, 5, 8, 7]⟩, ⟨xG 13 (xF 132 2 1) 10 false, [10, 9, 6, 5, 8, 7]⟩, ⟨xG 14 (xL 3 13) 10 false, [13, 10, 9, 6, 5, 8, 7]⟩, ⟨xG 15 (xO .lss 12 14) 10 false, [12, 11, 14, 13, 10, 9, 6, 5, 8, 7]⟩, ⟨xS 16 (xQ 10 15 true), [15, 12, 11, 14, 13, 10, 9, 6, 5, 8, 7]⟩, ⟨xS 17 (xM 16), [16, 15, 12, 11, 14, 13, 10, 9, 6, 5, 8, 7]⟩, ⟨xG 18 (xL 111 3) 17 false, [17, 16, 15, 12, 11, 14, 13, 10, 9, 6, 5, 8, 7]⟩, ⟨xG 19 (xC 116 #[xT 18] #[111]) 17 false, [18, 17, 16, 15, 12, 11, 14, 13, 10, 9, 6, 5, 8, 7]⟩, ⟨xG 20 (xF 132 2 2) 17 false, [17, 16, 15, 12, 11, 14, 13, 10, 9, 6, 5, 8, 7]⟩, ⟨xG 21 (xL 3 20) 17 false, [20, 17, 16, 15, 12, 11, 14, 13, 10, 9, 6, 5, 8, 7]⟩, ⟨xG 22 (xO .gtr 19 21) 17 false, [19, 18, 21, 20, 17, 16, 15, 12, 11, 14, 13, 10, 9, 6, 5, 8, 7]⟩, ⟨xS 23 (xQ 17 22 true), [22, 19, 18, 21, 20, 17, 16, 15, 12, 11, 14, 13, 10, 9, 6, 5, 8, 7]⟩] [] ⟨5, 23, []⟩ ⟨5, 22, []⟩ []) (.cond (.tmp 23) (.seq (.reg [xS 4 (xY false)] ⟨1, 0, []⟩ []) .ret) .skip)) (.seq (.seq (.reg [xS 24 (xF 111 3 0), xS 25 (xL 3 24), xS 26 (xJ .eql 25 1)] ⟨24, 25, []⟩ []) (.cond (.tmp 26) (.seq (.reg [xS 27 (xF 111 3 2), xS 28 (xL 9 27), xS 29 (.binOp .eql 9 (xT 28) (.const (.string ⟨#[]⟩)) 9), xS 4 (xP 29)] ⟨27, 29, []⟩ []) .ret) .skip)) (.seq (.reg [xS 30 (xF 111 3 1), xS 31 (xL 3 30), xS 32 (xJ .eql 31 0), xS 33 (xM 32), xG 34 (xF 111 3 2) 33 true, xG 35 (xL 9 34) 33 true, xG 36 (xC 138 #[xT 35, .func 139] #[9, 174]) 33 true, xG 37 (xU 36) 33 true, xS 38 (xK 33 37 false), xS 4 (xP 38)] ⟨30, 38, []⟩ []) .ret)))
theorem z114 : FnF Tryz.prog Tryz.f114 39 c114 [.tmp 4] := ⟨by kernel_rfl, by kernel_rfl, by kernel_rfl, by kernel_rfl, by decide⟩
instance z115 : FnI Tryz.prog 115 Tryz.f115 8 [.tmp 2] := {f := Tryz.func115, t := Tryz.ntmps115}
instance z116 : FnI Tryz.prog 116 Tryz.f116 11 [.tmp 2] := {f := Tryz.func116, t := Tryz.ntmps116}
instance z117 : FnI Tryz.prog 117 Tryz.f117 11 [.tmp 2] := {f := Tryz.func117, t := Tryz.ntmps117}
instance z118 : FnI Tryz.prog 118 Tryz.f118 37 [.cell 4 134] := {f := Tryz.func118, t := Tryz.ntmps118}
def c119 : AC :=
 .seq (.reg [xS 2 (xY false)] ⟨1, 0, []⟩ []) (.seq (.seq (.reg [xS 4 (xM 0), xS 5 (.binOp .eql 9 (xT 4) (.const (.string ⟨#[]⟩)) 9), xS 6 (xM 5), xG 7 (xM 0) 6 false, xG 8 (xN 7 9) 6 false, xG 9 (xJ .gtr 8 16) 6 false, xS 10 (xQ 6 9 true), xS 11 (xM 10), xG 12 (xM 0) 11 false, xG 13 (.index 9 (xT 12) (xI 0)) 11 false, xG 14 (xC 140 #[xT 13] #[5]) 11 false, xG 15 (xU 14) 11 false, xS 16 (xQ 11 15 true)] ⟨4, 15, []⟩ []) (.cond (.tmp 16) (.seq (.reg [xS 2 (xY false)] ⟨1, 0, []⟩ []) .ret) .skip)) (.seq (.seq (.reg [xS 17 (xM 0), xS 18 (xN 17 9), xS 19 (.move (xI 0))] ⟨17, 17, []⟩ []) (.block 0 (.loop (.seq (.reg [xS 20 (xO .lss 19 18)] ⟨1, 0, []⟩ []) (.seq (.cond (.tmp 20) .skip (.exit 0)) (.seq (.block 1 (.seq (.reg [xS 21 (xM 19), xS 3 (xP 21)] ⟨21, 21, []⟩ []) (.seq (.reg [xS 22 (xM 0), xS 23 (xM 3), xS 24 (.index 9 (xT 22) (xT 23)), xS 25 (xC 141 #[xT 24] #[5]), xS 26 (xU 25)] ⟨22, 25, []⟩ []) (.cond (.tmp 26) (.seq (.reg [xS 2 (xY false)] ⟨1, 0, []⟩ []) .ret) .skip)))) (.reg [xS 27 (xJ .add 19 1), xS 19 (xM 27)] ⟨27, 27, []⟩ []))))))) (.seq (.reg [xS 2 (xY true)] ⟨1, 0, []⟩ []) .ret)))
theorem z119 : FnF Tryz.prog Tryz.f119 28 c119 [.tmp 2] := ⟨by kernel_rfl, by kernel_rfl, by kernel_rfl, by kernel_rfl, by decide⟩
instance z120 : FnI Tryz.prog 120 Tryz.f120 19 [.tmp 4] := {f := Tryz.func120, t := Tryz.ntmps120}
instance z121 : FnI Tryz.prog 121 Tryz.f121 65 [.tmp 2] := {f := Tryz.func121, t := Tryz.ntmps121}
instance z122 : FnI Tryz.prog 122 Tryz.f122 30 [.tmp 4, .tmp 5] := {f := Tryz.func122, t := Tryz.ntmps122}
instance z123 : FnI Tryz.prog 123 Tryz.f123 53 [] := {f := Tryz.func123, t := Tryz.ntmps123}
instance z124 : FnI Tryz.prog 124 Tryz.f124 220 [] := {f := Tryz.func124, t := Tryz.ntmps124}
def c125 : AC :=
 .seq (.reg [xS 2 (xY false)] ⟨1, 0, []⟩ []) (.seq (.seq (.reg [xS 4 (xM 0), xS 5 (.binOp .eql 9 (xT 4) (.const (.string ⟨#[]⟩)) 9), xS 6 (xM 5), xG 7 (xM 0) 6 false, xG 8 (.index 9 (xT 7) (xI 0)) 6 false, xG 9 (xC 145 #[xT 8] #[5]) 6 false, xG 10 (xU 9) 6 false, xS 11 (xQ 6 10 true), xS 12 (xM 11), xG 13 (xM 0) 12 false, xG 14 (xN 13 9) 12 false, xG 15 (xJ .gtr 14 16) 12 false, xS 16 (xQ 12 15 true)] ⟨4, 15, []⟩ []) (.cond (.tmp 16) (.seq (.reg [xS 2 (xY false)] ⟨1, 0, []⟩ []) .ret) .skip)) (.seq (.seq (.reg [xS 3 (xZ 0)] ⟨1, 0, []⟩ []) (.block 0 (.loop (.seq (.seq (.reg [xS 17 (xM 3), xS 18 (xM 0), xS 19 (xN 18 9), xS 20 (xO .lss 17 19)] ⟨17, 19, []⟩ []) (.cond (.tmp 20) .skip (.exit 0))) (.seq (.block 1 (.seq (.reg [xS 23 (xM 0), xS 24 (xM 3), xS 25 (.index 9 (xT 23) (xT 24)), xS 26 (xC 146 #[xT 25] #[5]), xS 27 (xU 26)] ⟨23, 26, []⟩ []) (.cond (.tmp 27) (.seq (.reg [xS 2 (xY false)] ⟨1, 0, []⟩ []) .ret) .skip))) (.reg [xS 21 (xM 3), xS 22 (xJ .add 21 1), xS 3 (xP 22)] ⟨21, 22, []⟩ [])))))) (.seq (.reg [xS 2 (xY true)] ⟨1, 0, []⟩ []) .ret)))
theorem z125 : FnF Tryz.prog Tryz.f125 28 c125 [.tmp 2] := ⟨by kernel_rfl, by kernel_rfl, by kernel_rfl, by kernel_rfl, by decide⟩
instance z126 : FnI Tryz.prog 126 Tryz.f126 18 [.tmp 4] := {f := Tryz.func126, t := Tryz.ntmps126}
def c127 : AC :=
 .seq (.reg [xS 0 (.assign (.const (.slice none 0 0)))] ⟨1, 0, []⟩ []) (.seq (.reg [xS 1 (.buildSlice 22 28 #[(0, .const (.string ⟨#[97, 103, 97, 105, 110]⟩)), (1, .const (.string ⟨#[97, 110, 100]⟩)), (2, .const (.string ⟨#[97, 115]⟩)), (3, .const (.string ⟨#[97, 116]⟩)), (4, .const (.string ⟨#[99, 97, 108, 108]⟩)), (5, .const (.string ⟨#[99, 104, 111, 105, 99, 101]⟩)), (6, .const (.string ⟨#[101, 108, 115, 101]⟩)), (7, .const (.string ⟨#[102, 114, 111, 109]⟩)), (8, .const (.string ⟨#[105, 102]⟩)), (9, .const (.string ⟨#[105, 110, 116]⟩)), (10, .const (.string ⟨#[108, 101, 110]⟩)), (11, .const (.string ⟨#[108, 111, 111, 112]⟩)), (12, .const (.string ⟨#[109, 101, 115, 115, 97, 103, 101]⟩)), (13, .const (.string ⟨#[111, 102]⟩)), (14, .const (.string ⟨#[111, 102, 102, 101, 114]⟩)), (15, .const (.string ⟨#[111, 110]⟩)), (16, .const (.string ⟨#[111, 114]⟩)), (17, .const (.string ⟨#[112, 97, 114]⟩)), (18, .const (.string ⟨#[112, 108, 97, 121, 115]⟩)), (19, .const (.string ⟨#[112, 114, 111, 116, 111, 99, 111, 108]⟩)), (20, .const (.string ⟨#[115, 101, 114, 118, 105, 99, 101]⟩)), (21, .const (.string ⟨#[116, 101, 120, 116]⟩)), (22, .const (.string ⟨#[116, 105, 109, 101, 115]⟩)), (23, .const (.string ⟨#[116, 111]⟩)), (24, .const (.string ⟨#[118, 97, 114]⟩)), (25, .const (.string ⟨#[119, 104, 101, 114, 101]⟩)), (26, .const (.string ⟨#[119, 104, 105, 108, 101]⟩)), (27, .const (.string ⟨#[119, 105, 116, 104, 105, 110]⟩))]), xS 0 (xP 1)] ⟨1, 1, []⟩ []) .ret)
theorem z127 : FnF Tryz.prog Tryz.f127 2 c127 [.tmp 0] := ⟨by kernel_rfl, by kernel_rfl, by kernel_rfl, by kernel_rfl, by decide⟩
instance z128 : FnI Tryz.prog 128 Tryz.f128 35 [.tmp 2] := {f := Tryz.func128, t := Tryz.ntmps128}
instance z129 : FnI Tryz.prog 129 Tryz.f129 32 [.tmp 2] := {f := Tryz.func129, t := Tryz.ntmps129}
instance z130 : FnI Tryz.prog 130 Tryz.f130 90 [.tmp 4] := {f := Tryz.func130, t := Tryz.ntmps130}
def c131 : AC :=
 .seq (.reg [xS 2 (xY false)] ⟨1, 0, []⟩ []) (.seq (.reg [xS 3 (xM 0), xS 4 (xN 3 9), xS 5 (xJ .leq 4 50), xS 6 (xM 5), xG 7 (xM 0) 6 true, xG 8 (xC 150 #[xT 7, .const (.string ⟨#[46]⟩)] #[9, 9]) 6 true, xG 9 (xC 149 #[xT 8, .func 151] #[22, 137]) 6 true, xG 10 (xU 9) 6 true, xS 11 (xK 6 10 false), xS 2 (xP 11)] ⟨3, 11, []⟩ []) .ret)
theorem z131 : FnF Tryz.prog Tryz.f131 12 c131 [.tmp 2] := ⟨by kernel_rfl, by kernel_rfl, by kernel_rfl, by kernel_rfl, by decide⟩
instance z132 : FnI Tryz.prog 132 Tryz.f132 9 [.tmp 4] := {f := Tryz.func132, t := Tryz.ntmps132}
instance z133 : FnI Tryz.prog 133 Tryz.f133 9 [.tmp 3] := {f := Tryz.func133, t := Tryz.ntmps133}
instance z134 : FnI Tryz.prog 134 Tryz.f134 39 [.tmp 2] := {f := Tryz.func134, t := Tryz.ntmps134}
instance z135 : FnI Tryz.prog 135 Tryz.f135 9 [.tmp 4] := {f := Tryz.func135, t := Tryz.ntmps135}
instance z136 : FnI Tryz.prog 136 Tryz.f136 9 [.tmp 3] := {f := Tryz.func136, t := Tryz.ntmps136}
instance z137 : FnI Tryz.prog 137 Tryz.f137 85 [.tmp 4] := {f := Tryz.func137, t := Tryz.ntmps137}
instance z138 : FnI Tryz.prog 138 Tryz.f138 9 [.tmp 4] := {f := Tryz.func138, t := Tryz.ntmps138}
instance z139 : FnI Tryz.prog 139 Tryz.f139 9 [.tmp 2] := {f := Tryz.func139, t := Tryz.ntmps139}
instance z140 : FnI Tryz.prog 140 Tryz.f140 17 [.tmp 2] := {f := Tryz.func140, t := Tryz.ntmps140}
instance z141 : FnI Tryz.prog 141 Tryz.f141 13 [.tmp 2] := {f := Tryz.func141, t := Tryz.ntmps141}
instance z143 : FnI Tryz.prog 143 Tryz.f143 51 [.tmp 4, .tmp 5] := {f := Tryz.func143, t := Tryz.ntmps143}
instance z144 : FnI Tryz.prog 144 Tryz.f144 58 [] := {f := Tryz.func144, t := Tryz.ntmps144}
instance z145 : FnI Tryz.prog 145 Tryz.f145 17 [.tmp 2] := {f := Tryz.func145, t := Tryz.ntmps145}
instance z146 : FnI Tryz.prog 146 Tryz.f146 13 [.tmp 2] := {f := Tryz.func146, t := Tryz.ntmps146}
instance z147 : FnI Tryz.prog 147 Tryz.f147 5 [.tmp 2] := {f := Tryz.func147, t := Tryz.ntmps147}
instance z148 : FnI Tryz.prog 148 Tryz.f148 21 [.tmp 4] := {f := Tryz.func148, t := Tryz.ntmps148}
instance z149 : FnI Tryz.prog 149 Tryz.f149 9 [.tmp 4] := {f := Tryz.func149, t := Tryz.ntmps149}
instance z150 : FnI Tryz.prog 150 Tryz.f150 8 [.tmp 4] := {f := Tryz.func150, t := Tryz.ntmps150}
instance z151 : FnI Tryz.prog 151 Tryz.f151 6 [.tmp 2] := {f := Tryz.func151, t := Tryz.ntmps151}
instance z152 : FnI Tryz.prog 152 Tryz.f152 19 [.tmp 4] := {f := Tryz.func152, t := Tryz.ntmps152}
instance z153 : FnI Tryz.prog 153 Tryz.f153 19 [.tmp 4] := {f := Tryz.func153, t := Tryz.ntmps153}
instance z154 : FnI Tryz.prog 154 Tryz.f154 8 [.tmp 4] := {f := Tryz.func154, t := Tryz.ntmps154}
instance z155 : FnI Tryz.prog 155 Tryz.f155 9 [.tmp 2] := {f := Tryz.func155, t := Tryz.ntmps155}
instance z156 : FnI Tryz.prog 156 Tryz.f156 38 [] := {f := Tryz.func156, t := Tryz.ntmps156}
instance z157 : FnI Tryz.prog 157 Tryz.f157 9 [.tmp 2] := {f := Tryz.func157, t := Tryz.ntmps157}
instance z158 : FnI Tryz.prog 158 Tryz.f158 19 [.tmp 4] := {f := Tryz.func158, t := Tryz.ntmps158}
def c159 : AC :=
 .seq (.reg [xS 8 (.assign (.const (.slice none 0 0)))] ⟨1, 0, []⟩ []) (.seq (.seq (.reg [xS 12 (xM 3), xS 13 (xJ .eql 12 0)] ⟨12, 12, []⟩ []) (.cond (.tmp 13) (.seq (.reg [xS 8 (.assign (.const (.slice none 0 0)))] ⟨1, 0, []⟩ []) .ret) .skip)) (.seq (.seq (.reg [xS 14 (xM 1), xS 15 (.binOp .eql 9 (xT 14) (.const (.string ⟨#[]⟩)) 9)] ⟨14, 14, []⟩ []) (.cond (.tmp 15) (.seq (.reg [xS 16 (xM 0), xS 17 (xM 3), xS 18 (xC 161 #[xT 16, xT 17] #[9, 3]), xS 8 (xP 18)] ⟨16, 18, []⟩ []) .ret) .skip)) (.seq (.seq (.reg [xS 19 (xM 3), xS 20 (xJ .lss 19 0)] ⟨19, 19, []⟩ []) (.cond (.tmp 20) (.reg [xS 21 (xM 0), xS 22 (xM 1), xS 23 (xC 162 #[xT 21, xT 22] #[9, 9]), xS 24 (xJ .add 23 1), xS 3 (xP 24)] ⟨21, 24, []⟩ []) .skip)) (.seq (.reg [xS 25 (xM 3), xS 26 (xM 0), xS 27 (xN 26 9), xS 28 (xJ .add 27 1), xS 29 (.call ⟨.builtin .min, #[xT 25, xT 28], #[3, 3]⟩), xS 3 (xP 29)] ⟨25, 29, []⟩ []) (.seq (.reg [xS 30 (xM 3), xS 31 (.makeSlice 22 (xT 30) (xT 30)), xS 9 (xP 31)] ⟨30, 31, []⟩ []) (.seq (.reg [xS 32 (xM 3), xS 33 (xJ .sub 32 1), xS 3 (xP 33)] ⟨32, 33, []⟩ []) (.seq (.reg [xS 10 (xZ 0)] ⟨1, 0, []⟩ []) (.seq (.block 0 (.loop (.seq (.seq (.reg [xS 34 (xM 10), xS 35 (xM 3), xS 36 (xO .lss 34 35)] ⟨34, 35, []⟩ []) (.cond (.tmp 36) .skip (.exit 0))) (.block 1 (.seq (.reg [xS 37 (xM 0), xS 38 (xM 1), xS 39 (xC 163 #[xT 37, xT 38] #[9, 9]), xS 11 (xP 39)] ⟨37, 39, []⟩ []) (.seq (.seq (.reg [xS 40 (xM 11), xS 41 (xJ .lss 40 0)] ⟨40, 40, []⟩ []) (.cond (.tmp 41) (.exit 0) .skip)) (.seq (.reg [xS 42 (xM 9), xS 43 (xM 10), xS 44 (xM 0), xS 45 (xM 11), xS 46 (xM 2), xS 47 (xO .add 45 46), xS 48 (.slice 9 (xT 44) none (some (xT 47)) none), xS 49 (xA 22 42 43), x0 (xW 9 49 48)] ⟨42, 49, []⟩ []) (.seq (.reg [xS 50 (xM 0), xS 51 (xM 11), xS 52 (xM 1), xS 53 (xN 52 9), xS 54 (xO .add 51 53), xS 55 (.slice 9 (xT 50) (some (xT 54)) none none), xS 0 (xP 55)] ⟨50, 55, []⟩ []) (.reg [xS 56 (xM 10), xS 57 (xJ .add 56 1), xS 10 (xP 57)] ⟨56, 57, []⟩ []))))))))) (.seq (.reg [xS 58 (xM 9), xS 59 (xM 10), xS 60 (xM 0), xS 61 (xA 22 58 59), x0 (xW 9 61 60)] ⟨58, 61, []⟩ []) (.seq (.reg [xS 62 (xM 9), xS 63 (xM 10), xS 64 (xJ .add 63 1), xS 65 (.slice 22 (xT 62) none (some (xT 64)) none), xS 8 (xP 65)] ⟨62, 65, []⟩ []) .ret))))))))))
theorem z159 : FnF Tryz.prog Tryz.f159 66 c159 [.tmp 8] := ⟨by kernel_rfl, by kernel_rfl, by kernel_rfl, by kernel_rfl, by decide⟩
end Go.Av
