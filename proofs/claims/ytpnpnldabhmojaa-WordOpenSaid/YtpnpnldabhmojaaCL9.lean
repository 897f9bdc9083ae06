/- Part of a proof by symbolic walks on plain data. -/
import Derived.Test.YtpnpnldabhmojaaF8
import Derived.Test.YtpnpnldabhmojaaProg
set_option linter.unusedVariables false
set_option linter.unusedSimpArgs false
namespace Go.Av
open Go Go.RowKit Go.Proofs
def c9 : AC :=
  AC.seq
    (AC.reg [{ dst := some 6, op := Op.assign (Operand.const (Value.bool false)), g := none }]
      { lo := 1, hi := 0, xs := [] } [])
    (AC.seq
      (AC.seq
        (AC.reg
          [{ dst := some 14,
              op :=
                Op.call
                  { callee := Callee.value (Operand.func 11), args := #[], argTypes := #[] },
              g := none },
            { dst := some 15, op := Op.unOp UnOp.not 4 (Operand.tmp 14), g := none },
            { dst := some 16, op := Op.move (Operand.tmp 15), g := none },
            { dst := some 17, op := Op.move (Operand.tmp 0), g := some (16, false) },
            { dst := some 18,
              op :=
                Op.call
                  { callee := Callee.builtin Builtin.len, args := #[Operand.tmp 17],
                    argTypes := #[22] },
              g := some (16, false) },
            { dst := some 19,
              op := Op.binOp BinOp.gtr 3 (Operand.tmp 18) (Operand.const (Value.int IntKind.i64 20)) 3,
              g := some (16, false) },
            { dst := some 20, op := Op.pick (Operand.tmp 16) (Operand.const (Value.bool true)) (Operand.tmp 19),
              g := none },
            { dst := some 21, op := Op.move (Operand.tmp 20), g := none },
            { dst := some 22, op := Op.move (Operand.tmp 0), g := some (21, false) },
            { dst := some 23,
              op :=
                Op.call
                  { callee := Callee.value (Operand.func 22), args := #[Operand.tmp 22],
                    argTypes := #[22] },
              g := some (21, false) },
            { dst := some 24, op := Op.unOp UnOp.not 4 (Operand.tmp 23), g := some (21, false) },
            { dst := some 25, op := Op.pick (Operand.tmp 21) (Operand.const (Value.bool true)) (Operand.tmp 24),
              g := none }]
          { lo := 14, hi := 24, xs := [] } [])
        (AC.cond (Operand.tmp 25)
          (AC.seq
            (AC.reg
              [{ dst := some 26,
                  op :=
                    Op.call
                      { callee := Callee.value (Operand.func 11), args := #[],
                        argTypes := #[] },
                  g := none },
                { dst := some 6, op := Op.assign (Operand.tmp 26), g := none }]
              { lo := 26, hi := 26, xs := [] } [])
            AC.ret)
          AC.skip))
      (AC.seq
        (AC.reg
          [{ dst := some 27, op := Op.move (Operand.tmp 0), g := none },
            { dst := some 28,
              op :=
                Op.call
                  { callee := Callee.value (Operand.func 12),
                    args := #[Operand.tmp 27, Operand.const (Value.int IntKind.i64 6)],
                    argTypes := #[22, 3] },
              g := none },
            { dst := some 7, op := Op.assign (Operand.tmp 28), g := none }]
          { lo := 27, hi := 28, xs := [] } [])
        (AC.seq
          (AC.reg
            [{ dst := some 29, op := Op.move (Operand.tmp 1), g := none },
              { dst := some 30, op := Op.convert 5 3 (Operand.tmp 29), g := none },
              { dst := some 31,
                op := Op.binOp BinOp.rem 3 (Operand.tmp 30) (Operand.const (Value.int IntKind.i64 6)) 3,
                g := none },
              { dst := some 32, op := Op.move (Operand.tmp 2), g := none },
              { dst := some 33, op := Op.convert 5 3 (Operand.tmp 32), g := none },
              { dst := some 34,
                op := Op.binOp BinOp.rem 3 (Operand.tmp 33) (Operand.const (Value.int IntKind.i64 6)) 3,
                g := none },
              { dst := some 8, op := Op.assign (Operand.tmp 31), g := none },
              { dst := some 9, op := Op.assign (Operand.tmp 34), g := none }]
            { lo := 29, hi := 34, xs := [] } [])
          (AC.seq
            (AC.seq
              (AC.reg
                [{ dst := some 35, op := Op.move (Operand.tmp 7), g := none },
                  { dst := some 36,
                    op :=
                      Op.call
                        { callee := Callee.builtin Builtin.len, args := #[Operand.tmp 35],
                          argTypes := #[24] },
                    g := none },
                  { dst := some 37,
                    op := Op.binOp BinOp.neq 3 (Operand.tmp 36) (Operand.const (Value.int IntKind.i64 6)) 3,
                    g := none },
                  { dst := some 38, op := Op.move (Operand.tmp 37), g := none },
                  { dst := some 39, op := Op.move (Operand.tmp 8), g := some (38, false) },
                  { dst := some 40, op := Op.move (Operand.tmp 9), g := some (38, false) },
                  { dst := some 41, op := Op.binOp BinOp.eql 3 (Operand.tmp 39) (Operand.tmp 40) 3,
                    g := some (38, false) },
                  { dst := some 42, op := Op.pick (Operand.tmp 38) (Operand.const (Value.bool true)) (Operand.tmp 41),
                    g := none }]
                { lo := 35, hi := 41, xs := [] } [])
              (AC.cond (Operand.tmp 42)
                (AC.seq
                  (AC.reg
                    [{ dst := some 43, op := Op.move (Operand.tmp 7), g := none },
                      { dst := some 44,
                        op :=
                          Op.call
                            { callee := Callee.builtin Builtin.len, args := #[Operand.tmp 43],
                              argTypes := #[24] },
                        g := none },
                      { dst := some 45,
                        op :=
                          Op.binOp BinOp.eql 3 (Operand.tmp 44) (Operand.const (Value.int IntKind.i64 6)) 3,
                        g := none },
                      { dst := some 6, op := Op.assign (Operand.tmp 45), g := none }]
                    { lo := 43, hi := 45, xs := [] } [])
                  AC.ret)
                AC.skip))
            (AC.seq
              (AC.reg
                [{ dst := some 46, op := Op.move (Operand.tmp 7), g := none },
                  { dst := some 47, op := Op.move (Operand.tmp 8), g := none },
                  { dst := some 48, op := Op.move (Operand.tmp 7), g := none },
                  { dst := some 49, op := Op.move (Operand.tmp 8), g := none },
                  { dst := some 50, op := Op.indexAddr 24 (Operand.tmp 48) (Operand.tmp 49), g := none },
                  { dst := some 51, op := Op.load 29 (Operand.tmp 50), g := none },
                  { dst := some 52, op := Op.move (Operand.tmp 8), g := none },
                  { dst := some 53, op := Op.move (Operand.tmp 9), g := none },
                  { dst := some 54,
                    op :=
                      Op.build 44
                        #[(0, Operand.tmp 52), (1, Operand.const (Value.bool true)), (2, Operand.tmp 53),
                              (3, Operand.const (Value.int IntKind.i64 3))],
                    g := none },
                  { dst := some 55, op := Op.buildSlice 29 1 #[(0, Operand.tmp 54)], g := none },
                  { dst := some 56,
                    op :=
                      Op.call
                        { callee := Callee.builtin Builtin.append, args := #[Operand.tmp 51, Operand.tmp 55],
                          argTypes := #[29, 29] },
                    g := none },
                  { dst := some 57, op := Op.indexAddr 24 (Operand.tmp 46) (Operand.tmp 47), g := none },
                  { dst := none, op := Op.store 29 (Operand.tmp 57) (Operand.tmp 56), g := none }]
                { lo := 46, hi := 57, xs := [] } [])
              (AC.seq
                (AC.reg
                  [{ dst := some 59, op := Op.move (Operand.tmp 7), g := none },
                    { dst := some 60,
                      op :=
                        Op.call
                          { callee := Callee.value (Operand.func 23), args := #[Operand.tmp 59],
                            argTypes := #[24] },
                      g := none },
                    { dst := some 58, op := Op.move (Operand.tmp 60), g := none },
                    { dst := some 61, op := Op.extract (Operand.tmp 58) 0, g := none },
                    { dst := some 62, op := Op.extract (Operand.tmp 58) 1, g := none },
                    { dst := some 10, op := Op.assign (Operand.tmp 61), g := none },
                    { dst := some 11, op := Op.assign (Operand.tmp 62), g := none }]
                  { lo := 58, hi := 62, xs := [] } [])
                (AC.seq
                  (AC.reg
                    [{ dst := some 64, op := Op.move (Operand.tmp 7), g := none },
                      { dst := some 65,
                        op :=
                          Op.call
                            { callee := Callee.value (Operand.func 28), args := #[Operand.tmp 64],
                              argTypes := #[24] },
                        g := none },
                      { dst := some 63, op := Op.move (Operand.tmp 65), g := none },
                      { dst := some 66, op := Op.extract (Operand.tmp 63) 0, g := none },
                      { dst := some 67, op := Op.extract (Operand.tmp 63) 1, g := none },
                      { dst := some 12, op := Op.assign (Operand.tmp 66), g := none },
                      { dst := some 13, op := Op.assign (Operand.tmp 67), g := none }]
                    { lo := 63, hi := 67, xs := [] } [])
                  (AC.seq
                    (AC.reg
                      [{ dst := some 68, op := Op.move (Operand.tmp 11), g := none },
                        { dst := some 69, op := Op.unOp UnOp.not 4 (Operand.tmp 68), g := none },
                        { dst := some 70, op := Op.move (Operand.tmp 69), g := none },
                        { dst := some 71, op := Op.move (Operand.tmp 13), g := some (70, true) },
                        { dst := some 72,
                          op := Op.pick (Operand.tmp 70) (Operand.tmp 71) (Operand.const (Value.bool false)), g := none },
                        { dst := some 73, op := Op.move (Operand.tmp 72), g := none },
                        { dst := some 74, op := Op.move (Operand.tmp 12), g := some (73, true) },
                        { dst := some 75, op := Op.move (Operand.tmp 0), g := some (73, true) },
                        { dst := some 76,
                          op :=
                            Op.call
                              { callee := Callee.builtin Builtin.len, args := #[Operand.tmp 75],
                                argTypes := #[22] },
                          g := some (73, true) },
                        { dst := some 77, op := Op.binOp BinOp.eql 3 (Operand.tmp 74) (Operand.tmp 76) 3,
                          g := some (73, true) },
                        { dst := some 78,
                          op := Op.pick (Operand.tmp 73) (Operand.tmp 77) (Operand.const (Value.bool false)), g := none },
                        { dst := some 6, op := Op.assign (Operand.tmp 78), g := none }]
                      { lo := 68, hi := 78, xs := [] } [])
                    AC.ret))))))))

theorem e9 : slim (Try.f9.body.getD .skip) = c9 := by kernel_rfl
theorem b9 : Try.f9.body = some (Try.f9.body.getD .skip) := by kernel_rfl
theorem d9 : textOk Try.prog 79 (Try.f9.body.getD .skip) = true := by kernel_rfl
theorem r9 : Try.f9.results.toList = [ResultVar.tmp 6] := by kernel_rfl
theorem n9 : Try.f9.name ≠ "runtime.NumGoroutine" := by decide
end Go.Av
