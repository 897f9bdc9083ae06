/- Part of a proof by symbolic walks on plain data. -/
import Derived.Test.YtpnpnldabhmojaaF8
import Derived.Test.YtpnpnldabhmojaaProg
set_option linter.unusedVariables false
set_option linter.unusedSimpArgs false
namespace Go.Av
open Go Go.RowKit Go.Proofs
def c5 : AC :=
  AC.seq
    (AC.reg [{ dst := some 2, op := Op.assign (Operand.const (Value.bool false)), g := none }]
      { lo := 1, hi := 0, xs := [] } [])
    (AC.seq
      (AC.seq
        (AC.reg
          [{ dst := some 6,
              op :=
                Op.call
                  { callee := Callee.value (Operand.func 11), args := #[], argTypes := #[] },
              g := none },
            { dst := some 7, op := Op.unOp UnOp.not 4 (Operand.tmp 6), g := none },
            { dst := some 8, op := Op.move (Operand.tmp 7), g := none },
            { dst := some 9, op := Op.move (Operand.tmp 0), g := some (8, false) },
            { dst := some 10,
              op :=
                Op.call
                  { callee := Callee.builtin Builtin.len, args := #[Operand.tmp 9],
                    argTypes := #[22] },
              g := some (8, false) },
            { dst := some 11,
              op := Op.binOp BinOp.gtr 3 (Operand.tmp 10) (Operand.const (Value.int IntKind.i64 20)) 3,
              g := some (8, false) },
            { dst := some 12, op := Op.pick (Operand.tmp 8) (Operand.const (Value.bool true)) (Operand.tmp 11),
              g := none },
            { dst := some 13, op := Op.move (Operand.tmp 12), g := none },
            { dst := some 14, op := Op.move (Operand.tmp 0), g := some (13, false) },
            { dst := some 15,
              op :=
                Op.call
                  { callee := Callee.value (Operand.func 22), args := #[Operand.tmp 14],
                    argTypes := #[22] },
              g := some (13, false) },
            { dst := some 16, op := Op.unOp UnOp.not 4 (Operand.tmp 15), g := some (13, false) },
            { dst := some 17, op := Op.pick (Operand.tmp 13) (Operand.const (Value.bool true)) (Operand.tmp 16),
              g := none }]
          { lo := 6, hi := 16, xs := [] } [])
        (AC.cond (Operand.tmp 17)
          (AC.seq
            (AC.reg
              [{ dst := some 18,
                  op :=
                    Op.call
                      { callee := Callee.value (Operand.func 11), args := #[],
                        argTypes := #[] },
                  g := none },
                { dst := some 2, op := Op.assign (Operand.tmp 18), g := none }]
              { lo := 18, hi := 18, xs := [] } [])
            AC.ret)
          AC.skip))
      (AC.seq
        (AC.reg
          [{ dst := some 19, op := Op.move (Operand.tmp 0), g := none },
            { dst := some 20,
              op :=
                Op.call
                  { callee := Callee.value (Operand.func 17), args := #[Operand.tmp 19],
                    argTypes := #[22] },
              g := none },
            { dst := some 3, op := Op.assign (Operand.tmp 20), g := none }]
          { lo := 19, hi := 20, xs := [] } [])
        (AC.seq
          (AC.reg
            [{ dst := some 22, op := Op.move (Operand.tmp 0), g := none },
              { dst := some 23,
                op :=
                  Op.call
                    { callee := Callee.value (Operand.func 12),
                      args := #[Operand.tmp 22, Operand.const (Value.int IntKind.i64 6)],
                      argTypes := #[22, 3] },
                g := none },
              { dst := some 24,
                op :=
                  Op.call
                    { callee := Callee.value (Operand.func 23), args := #[Operand.tmp 23],
                      argTypes := #[24] },
                g := none },
              { dst := some 21, op := Op.move (Operand.tmp 24), g := none },
              { dst := some 25, op := Op.extract (Operand.tmp 21) 0, g := none },
              { dst := some 26, op := Op.extract (Operand.tmp 21) 1, g := none },
              { dst := some 4, op := Op.assign (Operand.tmp 25), g := none },
              { dst := some 5, op := Op.assign (Operand.tmp 26), g := none }]
            { lo := 21, hi := 26, xs := [] } [])
          (AC.seq
            (AC.reg
              [{ dst := some 27, op := Op.move (Operand.tmp 0), g := none },
                { dst := some 28, op := Op.move (Operand.tmp 3), g := none },
                { dst := some 29,
                  op :=
                    Op.call
                      { callee := Callee.value (Operand.func 14), args := #[Operand.tmp 27, Operand.tmp 28],
                        argTypes := #[22, 22] },
                  g := none },
                { dst := some 30, op := Op.move (Operand.tmp 29), g := none },
                { dst := some 31, op := Op.move (Operand.tmp 3), g := some (30, true) },
                { dst := some 32,
                  op :=
                    Op.call
                      { callee := Callee.value (Operand.func 17), args := #[Operand.tmp 31],
                        argTypes := #[22] },
                  g := some (30, true) },
                { dst := some 33, op := Op.move (Operand.tmp 3), g := some (30, true) },
                { dst := some 34,
                  op :=
                    Op.call
                      { callee := Callee.value (Operand.func 16), args := #[Operand.tmp 32, Operand.tmp 33],
                        argTypes := #[22, 22] },
                  g := some (30, true) },
                { dst := some 35, op := Op.pick (Operand.tmp 30) (Operand.tmp 34) (Operand.const (Value.bool false)),
                  g := none },
                { dst := some 36, op := Op.move (Operand.tmp 35), g := none },
                { dst := some 37, op := Op.move (Operand.tmp 5), g := some (36, true) },
                { dst := some 38, op := Op.pick (Operand.tmp 36) (Operand.tmp 37) (Operand.const (Value.bool false)),
                  g := none },
                { dst := some 39, op := Op.move (Operand.tmp 38), g := none },
                { dst := some 40, op := Op.move (Operand.tmp 4), g := some (39, true) },
                { dst := some 41, op := Op.move (Operand.tmp 3), g := some (39, true) },
                { dst := some 42,
                  op :=
                    Op.call
                      { callee := Callee.value (Operand.func 16), args := #[Operand.tmp 40, Operand.tmp 41],
                        argTypes := #[22, 22] },
                  g := some (39, true) },
                { dst := some 43, op := Op.pick (Operand.tmp 39) (Operand.tmp 42) (Operand.const (Value.bool false)),
                  g := none },
                { dst := some 2, op := Op.assign (Operand.tmp 43), g := none }]
              { lo := 27, hi := 43, xs := [] } [])
            AC.ret))))

theorem e5 : slim (Try.f5.body.getD .skip) = c5 := by kernel_rfl
theorem b5 : Try.f5.body = some (Try.f5.body.getD .skip) := by kernel_rfl
theorem d5 : textOk Try.prog 44 (Try.f5.body.getD .skip) = true := by kernel_rfl
theorem r5 : Try.f5.results.toList = [ResultVar.tmp 2] := by kernel_rfl
theorem n5 : Try.f5.name ≠ "runtime.NumGoroutine" := by decide
end Go.Av
