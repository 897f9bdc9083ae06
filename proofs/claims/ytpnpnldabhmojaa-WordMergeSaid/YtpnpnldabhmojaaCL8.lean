/- Part of a proof by symbolic walks on plain data. -/
import Derived.Test.YtpnpnldabhmojaaF8
import Derived.Test.YtpnpnldabhmojaaProg
set_option linter.unusedVariables false
set_option linter.unusedSimpArgs false
namespace Go.Av
open Go Go.RowKit Go.Proofs
def c8 : AC :=
  AC.seq
    (AC.reg [{ dst := some 2, op := Op.assign (Operand.const (Value.bool false)), g := none }]
      { lo := 1, hi := 0, xs := [] } [])
    (AC.seq
      (AC.seq
        (AC.reg
          [{ dst := some 11,
              op :=
                Op.call
                  { callee := Callee.value (Operand.func 11), args := #[], argTypes := #[] },
              g := none },
            { dst := some 12, op := Op.unOp UnOp.not 4 (Operand.tmp 11), g := none },
            { dst := some 13, op := Op.move (Operand.tmp 12), g := none },
            { dst := some 14, op := Op.move (Operand.tmp 0), g := some (13, false) },
            { dst := some 15,
              op :=
                Op.call
                  { callee := Callee.value (Operand.func 26), args := #[Operand.tmp 14],
                    argTypes := #[24] },
              g := some (13, false) },
            { dst := some 16, op := Op.unOp UnOp.not 4 (Operand.tmp 15), g := some (13, false) },
            { dst := some 17, op := Op.pick (Operand.tmp 13) (Operand.const (Value.bool true)) (Operand.tmp 16),
              g := none }]
          { lo := 11, hi := 16, xs := [] } [])
        (AC.cond (Operand.tmp 17)
          (AC.seq
            (AC.reg
              [{ dst := some 18,
                  op :=
                    Op.call
                      { callee := Callee.value (Operand.func 11), args := #[],
                        argTypes := #[] },
                  g := none },
                { dst := some 2, op := Op.assign (Operand.tmp 18), g := none }]
              { lo := 18, hi := 18, xs := [] } [])
            AC.ret)
          AC.skip))
      (AC.seq
        (AC.reg
          [{ dst := some 20, op := Op.move (Operand.tmp 0), g := none },
            { dst := some 21,
              op :=
                Op.call
                  { callee := Callee.value (Operand.func 23), args := #[Operand.tmp 20],
                    argTypes := #[24] },
              g := none },
            { dst := some 19, op := Op.move (Operand.tmp 21), g := none },
            { dst := some 22, op := Op.extract (Operand.tmp 19) 0, g := none },
            { dst := some 23, op := Op.extract (Operand.tmp 19) 1, g := none },
            { dst := some 3, op := Op.assign (Operand.tmp 22), g := none },
            { dst := some 4, op := Op.assign (Operand.tmp 23), g := none }]
          { lo := 19, hi := 23, xs := [] } [])
        (AC.seq
          (AC.reg
            [{ dst := some 25, op := Op.move (Operand.tmp 0), g := none },
              { dst := some 26,
                op :=
                  Op.call
                    { callee := Callee.value (Operand.func 27), args := #[Operand.tmp 25],
                      argTypes := #[24] },
                g := none },
              { dst := some 24, op := Op.move (Operand.tmp 26), g := none },
              { dst := some 27, op := Op.extract (Operand.tmp 24) 0, g := none },
              { dst := some 28, op := Op.extract (Operand.tmp 24) 1, g := none },
              { dst := some 5, op := Op.assign (Operand.tmp 27), g := none },
              { dst := some 6, op := Op.assign (Operand.tmp 28), g := none }]
            { lo := 24, hi := 28, xs := [] } [])
          (AC.seq
            (AC.reg
              [{ dst := some 30, op := Op.move (Operand.tmp 0), g := none },
                { dst := some 31,
                  op :=
                    Op.call
                      { callee := Callee.value (Operand.func 28), args := #[Operand.tmp 30],
                        argTypes := #[24] },
                  g := none },
                { dst := some 29, op := Op.move (Operand.tmp 31), g := none },
                { dst := some 32, op := Op.extract (Operand.tmp 29) 0, g := none },
                { dst := some 33, op := Op.extract (Operand.tmp 29) 1, g := none },
                { dst := some 7, op := Op.assign (Operand.tmp 32), g := none },
                { dst := some 8, op := Op.assign (Operand.tmp 33), g := none }]
              { lo := 29, hi := 33, xs := [] } [])
            (AC.seq
              (AC.reg
                [{ dst := some 35, op := Op.move (Operand.tmp 0), g := none },
                  { dst := some 36,
                    op :=
                      Op.call
                        { callee := Callee.value (Operand.func 29), args := #[Operand.tmp 35],
                          argTypes := #[24] },
                    g := none },
                  { dst := some 34, op := Op.move (Operand.tmp 36), g := none },
                  { dst := some 37, op := Op.extract (Operand.tmp 34) 0, g := none },
                  { dst := some 38, op := Op.extract (Operand.tmp 34) 1, g := none },
                  { dst := some 9, op := Op.assign (Operand.tmp 37), g := none },
                  { dst := some 10, op := Op.assign (Operand.tmp 38), g := none }]
                { lo := 34, hi := 38, xs := [] } [])
              (AC.seq
                (AC.reg
                  [{ dst := some 39, op := Op.move (Operand.tmp 4), g := none },
                    { dst := some 40, op := Op.move (Operand.tmp 6), g := none },
                    { dst := some 41, op := Op.binOp BinOp.eql 4 (Operand.tmp 39) (Operand.tmp 40) 4, g := none },
                    { dst := some 42, op := Op.move (Operand.tmp 41), g := none },
                    { dst := some 43, op := Op.move (Operand.tmp 3), g := some (42, true) },
                    { dst := some 44, op := Op.move (Operand.tmp 5), g := some (42, true) },
                    { dst := some 45,
                      op :=
                        Op.call
                          { callee := Callee.value (Operand.func 16),
                            args := #[Operand.tmp 43, Operand.tmp 44], argTypes := #[22, 22] },
                      g := some (42, true) },
                    { dst := some 46, op := Op.pick (Operand.tmp 42) (Operand.tmp 45) (Operand.const (Value.bool false)),
                      g := none },
                    { dst := some 47, op := Op.move (Operand.tmp 46), g := none },
                    { dst := some 48, op := Op.move (Operand.tmp 7), g := some (47, true) },
                    { dst := some 49, op := Op.move (Operand.tmp 9), g := some (47, true) },
                    { dst := some 50, op := Op.binOp BinOp.eql 3 (Operand.tmp 48) (Operand.tmp 49) 3,
                      g := some (47, true) },
                    { dst := some 51, op := Op.pick (Operand.tmp 47) (Operand.tmp 50) (Operand.const (Value.bool false)),
                      g := none },
                    { dst := some 52, op := Op.move (Operand.tmp 51), g := none },
                    { dst := some 53, op := Op.move (Operand.tmp 8), g := some (52, true) },
                    { dst := some 54, op := Op.move (Operand.tmp 10), g := some (52, true) },
                    { dst := some 55, op := Op.binOp BinOp.eql 4 (Operand.tmp 53) (Operand.tmp 54) 4,
                      g := some (52, true) },
                    { dst := some 56, op := Op.pick (Operand.tmp 52) (Operand.tmp 55) (Operand.const (Value.bool false)),
                      g := none },
                    { dst := some 2, op := Op.assign (Operand.tmp 56), g := none }]
                  { lo := 39, hi := 56, xs := [] } [])
                AC.ret))))))

theorem e8 : slim (Try.f8.body.getD .skip) = c8 := by kernel_rfl
theorem b8 : Try.f8.body = some (Try.f8.body.getD .skip) := by kernel_rfl
theorem d8 : textOk Try.prog 57 (Try.f8.body.getD .skip) = true := by kernel_rfl
theorem r8 : Try.f8.results.toList = [ResultVar.tmp 2] := by kernel_rfl
theorem n8 : Try.f8.name ≠ "runtime.NumGoroutine" := by decide
end Go.Av
