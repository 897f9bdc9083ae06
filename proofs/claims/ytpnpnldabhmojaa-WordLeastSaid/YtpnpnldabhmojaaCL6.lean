/- Part of a proof by symbolic walks on plain data. -/
import Derived.Test.YtpnpnldabhmojaaAvQ
import Derived.Test.YtpnpnldabhmojaaProg
set_option linter.unusedVariables false
set_option linter.unusedSimpArgs false
namespace Go.Av
open Go Go.RowKit Go.Proofs
def c6 : AC :=
  AC.seq
    (AC.reg [{ dst := some 2, op := Op.assign (Operand.const (Value.bool false)), g := none }]
      { lo := 1, hi := 0, xs := [] } [])
    (AC.seq
      (AC.seq
        (AC.reg
          [{ dst := some 5,
              op :=
                Op.call
                  { callee := Callee.value (Operand.func 11), args := #[], argTypes := #[] },
              g := none },
            { dst := some 6, op := Op.unOp UnOp.not 4 (Operand.tmp 5), g := none },
            { dst := some 7, op := Op.move (Operand.tmp 6), g := none },
            { dst := some 8, op := Op.move (Operand.tmp 0), g := some (7, false) },
            { dst := some 9,
              op :=
                Op.call
                  { callee := Callee.builtin Builtin.len, args := #[Operand.tmp 8],
                    argTypes := #[22] },
              g := some (7, false) },
            { dst := some 10,
              op := Op.binOp BinOp.gtr 3 (Operand.tmp 9) (Operand.const (Value.int IntKind.i64 20)) 3,
              g := some (7, false) },
            { dst := some 11, op := Op.pick (Operand.tmp 7) (Operand.const (Value.bool true)) (Operand.tmp 10),
              g := none },
            { dst := some 12, op := Op.move (Operand.tmp 11), g := none },
            { dst := some 13, op := Op.move (Operand.tmp 0), g := some (12, false) },
            { dst := some 14,
              op :=
                Op.call
                  { callee := Callee.value (Operand.func 22), args := #[Operand.tmp 13],
                    argTypes := #[22] },
              g := some (12, false) },
            { dst := some 15, op := Op.unOp UnOp.not 4 (Operand.tmp 14), g := some (12, false) },
            { dst := some 16, op := Op.pick (Operand.tmp 12) (Operand.const (Value.bool true)) (Operand.tmp 15),
              g := none }]
          { lo := 5, hi := 15, xs := [] } [])
        (AC.cond (Operand.tmp 16)
          (AC.seq
            (AC.reg
              [{ dst := some 17,
                  op :=
                    Op.call
                      { callee := Callee.value (Operand.func 11), args := #[],
                        argTypes := #[] },
                  g := none },
                { dst := some 2, op := Op.assign (Operand.tmp 17), g := none }]
              { lo := 17, hi := 17, xs := [] } [])
            AC.ret)
          AC.skip))
      (AC.seq
        (AC.reg
          [{ dst := some 18, op := Op.move (Operand.tmp 0), g := none },
            { dst := some 19,
              op :=
                Op.call
                  { callee := Callee.value (Operand.func 17), args := #[Operand.tmp 18],
                    argTypes := #[22] },
              g := none },
            { dst := some 3, op := Op.assign (Operand.tmp 19), g := none }]
          { lo := 18, hi := 19, xs := [] } [])
        (AC.seq
          (AC.seq
            (AC.reg [{ dst := some 4, op := Op.assign (Operand.const (Value.int IntKind.i64 0)), g := none }]
              { lo := 1, hi := 0, xs := [] } [])
            (AC.block 0
              (AC.loop
                (AC.seq
                  (AC.seq
                    (AC.reg
                      [{ dst := some 20, op := Op.move (Operand.tmp 4), g := none },
                        { dst := some 21,
                          op :=
                            Op.binOp BinOp.add 3 (Operand.tmp 20) (Operand.const (Value.int IntKind.i64 1)) 3,
                          g := none },
                        { dst := some 22, op := Op.move (Operand.tmp 3), g := none },
                        { dst := some 23,
                          op :=
                            Op.call
                              { callee := Callee.builtin Builtin.len, args := #[Operand.tmp 22],
                                argTypes := #[22] },
                          g := none },
                        { dst := some 24, op := Op.binOp BinOp.lss 3 (Operand.tmp 21) (Operand.tmp 23) 3, g := none }]
                      { lo := 20, hi := 23, xs := [] } [])
                    (AC.cond (Operand.tmp 24) AC.skip (AC.exit 0)))
                  (AC.seq
                    (AC.block 1
                      (AC.seq
                        (AC.drw
                          [{ o := { dst := some 27, op := Op.move (Operand.tmp 3), g := none }, kn := [] },
                            { o := { dst := some 28, op := Op.move (Operand.tmp 4), g := none }, kn := [] },
                            { o := { dst := some 29, op := Op.indexAddr 22 (Operand.tmp 27) (Operand.tmp 28), g := none },
                              kn := [27, 28] },
                            { o := { dst := some 30, op := Op.load 32 (Operand.tmp 29), g := none }, kn := [29, 27, 28] },
                            { o := { dst := some 31, op := Op.move (Operand.tmp 3), g := none }, kn := [] },
                            { o := { dst := some 32, op := Op.move (Operand.tmp 4), g := none }, kn := [] },
                            {
                              o :=
                                { dst := some 33,
                                  op :=
                                    Op.binOp BinOp.add 3 (Operand.tmp 32)
                                      (Operand.const (Value.int IntKind.i64 1)) 3,
                                  g := none },
                              kn := [32] },
                            { o := { dst := some 34, op := Op.indexAddr 22 (Operand.tmp 31) (Operand.tmp 33), g := none },
                              kn := [31, 33, 32] },
                            { o := { dst := some 35, op := Op.load 32 (Operand.tmp 34), g := none },
                              kn := [34, 31, 33, 32] },
                            {
                              o :=
                                { dst := some 36,
                                  op :=
                                    Op.call
                                      { callee := Callee.value (Operand.func 20),
                                        args := #[Operand.tmp 30, Operand.tmp 35],
                                        argTypes := #[32, 32] },
                                  g := none },
                              kn := [30, 29, 27, 28, 35, 34, 31, 33, 32] },
                            { o := { dst := some 37, op := Op.move (Operand.tmp 36), g := none },
                              kn := [36, 30, 29, 27, 28, 35, 34, 31, 33, 32] },
                            { o := { dst := some 38, op := Op.move (Operand.tmp 3), g := some (37, true) },
                              kn := [37, 36, 30, 29, 27, 28, 35, 34, 31, 33, 32] },
                            { o := { dst := some 39, op := Op.move (Operand.tmp 4), g := some (37, true) },
                              kn := [37, 36, 30, 29, 27, 28, 35, 34, 31, 33, 32] },
                            {
                              o :=
                                { dst := some 40,
                                  op :=
                                    Op.binOp BinOp.add 3 (Operand.tmp 39)
                                      (Operand.const (Value.int IntKind.i64 1)) 3,
                                  g := some (37, true) },
                              kn := [39, 37, 36, 30, 29, 27, 28, 35, 34, 31, 33, 32] },
                            {
                              o :=
                                { dst := some 41, op := Op.indexAddr 22 (Operand.tmp 38) (Operand.tmp 40),
                                  g := some (37, true) },
                              kn := [38, 40, 39, 37, 36, 30, 29, 27, 28, 35, 34, 31, 33, 32] },
                            { o := { dst := some 42, op := Op.load 32 (Operand.tmp 41), g := some (37, true) },
                              kn := [41, 38, 40, 39, 37, 36, 30, 29, 27, 28, 35, 34, 31, 33, 32] },
                            { o := { dst := some 43, op := Op.move (Operand.tmp 3), g := some (37, true) },
                              kn := [37, 36, 30, 29, 27, 28, 35, 34, 31, 33, 32] },
                            { o := { dst := some 44, op := Op.move (Operand.tmp 4), g := some (37, true) },
                              kn := [37, 36, 30, 29, 27, 28, 35, 34, 31, 33, 32] },
                            {
                              o :=
                                { dst := some 45, op := Op.indexAddr 22 (Operand.tmp 43) (Operand.tmp 44),
                                  g := some (37, true) },
                              kn := [43, 44, 37, 36, 30, 29, 27, 28, 35, 34, 31, 33, 32] },
                            { o := { dst := some 46, op := Op.load 32 (Operand.tmp 45), g := some (37, true) },
                              kn := [45, 43, 44, 37, 36, 30, 29, 27, 28, 35, 34, 31, 33, 32] },
                            {
                              o :=
                                { dst := some 47,
                                  op :=
                                    Op.call
                                      { callee := Callee.value (Operand.func 24),
                                        args := #[Operand.tmp 42, Operand.tmp 46],
                                        argTypes := #[32, 32] },
                                  g := some (37, true) },
                              kn := [42, 41, 38, 40, 39, 46, 45, 43, 44, 37, 36, 30, 29, 27, 28, 35, 34, 31, 33, 32] },
                            {
                              o :=
                                { dst := some 48,
                                  op := Op.pick (Operand.tmp 37) (Operand.tmp 47) (Operand.const (Value.bool false)),
                                  g := none },
                              kn :=
                                [47, 42, 41, 38, 40, 39, 46, 45, 43, 44, 37, 36, 30, 29, 27, 28, 35, 34, 31, 33, 32] }]
                          [] { lo := 27, hi := 48, xs := [] } { lo := 27, hi := 47, xs := [] } [])
                        (AC.cond (Operand.tmp 48)
                          (AC.seq
                            (AC.reg [{ dst := some 2, op := Op.assign (Operand.const (Value.bool false)), g := none }]
                              { lo := 1, hi := 0, xs := [] } [])
                            AC.ret)
                          AC.skip)))
                    (AC.reg
                      [{ dst := some 25, op := Op.move (Operand.tmp 4), g := none },
                        { dst := some 26,
                          op :=
                            Op.binOp BinOp.add 3 (Operand.tmp 25) (Operand.const (Value.int IntKind.i64 1)) 3,
                          g := none },
                        { dst := some 4, op := Op.assign (Operand.tmp 26), g := none }]
                      { lo := 25, hi := 26, xs := [] } []))))))
          (AC.seq
            (AC.reg
              [{ dst := some 49, op := Op.move (Operand.tmp 3), g := none },
                { dst := some 50,
                  op :=
                    Op.call
                      { callee := Callee.builtin Builtin.len, args := #[Operand.tmp 49],
                        argTypes := #[22] },
                  g := none },
                { dst := some 51, op := Op.move (Operand.tmp 0), g := none },
                { dst := some 52,
                  op :=
                    Op.call
                      { callee := Callee.builtin Builtin.len, args := #[Operand.tmp 51],
                        argTypes := #[22] },
                  g := none },
                { dst := some 53, op := Op.binOp BinOp.eql 3 (Operand.tmp 50) (Operand.tmp 52) 3, g := none },
                { dst := some 2, op := Op.assign (Operand.tmp 53), g := none }]
              { lo := 49, hi := 53, xs := [] } [])
            AC.ret))))

theorem e6 : slim (Try.f6.body.getD .skip) = c6 := by kernel_rfl
theorem b6 : Try.f6.body = some (Try.f6.body.getD .skip) := by kernel_rfl
theorem d6 : textOk Try.prog 54 (Try.f6.body.getD .skip) = true := by kernel_rfl
theorem r6 : Try.f6.results.toList = [ResultVar.tmp 2] := by kernel_rfl
theorem n6 : Try.f6.name ≠ "runtime.NumGoroutine" := by decide
end Go.Av
