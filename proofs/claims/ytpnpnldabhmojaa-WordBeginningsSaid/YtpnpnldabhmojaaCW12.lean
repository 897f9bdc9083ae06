/- Part of a proof by symbolic walks on plain data. -/
import Derived.Test.YtpnpnldabhmojaaF8
import Derived.Test.YtpnpnldabhmojaaProg
set_option linter.unusedVariables false
set_option linter.unusedSimpArgs false
namespace Go.Av
open Go Go.RowKit Go.Proofs
def c28 : AC :=
  AC.seq
    (AC.reg
      [{ dst := some 2, op := Op.assign (Operand.const (Value.int IntKind.i64 0)), g := none },
        { dst := some 3, op := Op.assign (Operand.const (Value.bool false)), g := none }]
      { lo := 1, hi := 0, xs := [] } [])
    (AC.seq
      (AC.seq
        (AC.reg
          [{ dst := some 11, op := Op.move (Operand.tmp 0), g := none },
            { dst := some 12,
              op :=
                Op.call
                  { callee := Callee.value (Operand.func 35), args := #[Operand.tmp 11],
                    argTypes := #[24] },
              g := none },
            { dst := some 13, op := Op.unOp UnOp.not 4 (Operand.tmp 12), g := none }]
          { lo := 11, hi := 12, xs := [] } [])
        (AC.cond (Operand.tmp 13)
          (AC.seq
            (AC.reg
              [{ dst := some 2, op := Op.assign (Operand.const (Value.int IntKind.i64 0)), g := none },
                { dst := some 3, op := Op.assign (Operand.const (Value.bool false)), g := none }]
              { lo := 1, hi := 0, xs := [] } [])
            AC.ret)
          AC.skip))
      (AC.seq
        (AC.reg [{ dst := some 4, op := Op.assign (Operand.const (Value.int IntKind.i64 0)), g := none }]
          { lo := 1, hi := 0, xs := [] } [])
        (AC.seq
          (AC.seq
            (AC.reg
              [{ dst := some 14, op := Op.move (Operand.tmp 0), g := none },
                { dst := some 15,
                  op :=
                    Op.call
                      { callee := Callee.builtin Builtin.len, args := #[Operand.tmp 14],
                        argTypes := #[24] },
                  g := none },
                { dst := some 16, op := Op.move (Operand.const (Value.int IntKind.i64 0)), g := none }]
              { lo := 1, hi := 0, xs := [] } [])
            (AC.block 0
              (AC.loop
                (AC.seq
                  (AC.reg [{ dst := some 17, op := Op.binOp BinOp.lss 3 (Operand.tmp 16) (Operand.tmp 15) 3, g := none }]
                    { lo := 1, hi := 0, xs := [] } [])
                  (AC.seq (AC.cond (Operand.tmp 17) AC.skip (AC.exit 0))
                    (AC.seq
                      (AC.block 1
                        (AC.seq
                          (AC.reg
                            [{ dst := some 18, op := Op.move (Operand.tmp 16), g := none },
                              { dst := some 19, op := Op.indexAddr 24 (Operand.tmp 14) (Operand.tmp 16), g := none },
                              { dst := some 20, op := Op.load 29 (Operand.tmp 19), g := none },
                              { dst := some 5, op := Op.assign (Operand.tmp 18), g := none },
                              { dst := some 6, op := Op.assign (Operand.tmp 20), g := none }]
                            { lo := 18, hi := 20, xs := [] } [])
                          (AC.seq
                            (AC.reg
                              [{ dst := some 21, op := Op.move (Operand.tmp 0), g := none },
                                { dst := some 22,
                                  op :=
                                    Op.call
                                      { callee := Callee.builtin Builtin.len, args := #[Operand.tmp 21],
                                        argTypes := #[24] },
                                  g := none },
                                { dst := some 23, op := Op.move (Operand.const (Value.int IntKind.i64 0)),
                                  g := none }]
                              { lo := 1, hi := 0, xs := [] } [])
                            (AC.block 2
                              (AC.loop
                                (AC.seq
                                  (AC.reg
                                    [{ dst := some 24, op := Op.binOp BinOp.lss 3 (Operand.tmp 23) (Operand.tmp 22) 3,
                                        g := none }]
                                    { lo := 1, hi := 0, xs := [] } [])
                                  (AC.seq (AC.cond (Operand.tmp 24) AC.skip (AC.exit 2))
                                    (AC.seq
                                      (AC.block 3
                                        (AC.seq
                                          (AC.reg
                                            [{ dst := some 25, op := Op.move (Operand.tmp 23), g := none },
                                              { dst := some 26, op := Op.indexAddr 24 (Operand.tmp 21) (Operand.tmp 23),
                                                g := none },
                                              { dst := some 27, op := Op.load 29 (Operand.tmp 26), g := none },
                                              { dst := some 7, op := Op.assign (Operand.tmp 25), g := none },
                                              { dst := some 8, op := Op.assign (Operand.tmp 27), g := none }]
                                            { lo := 25, hi := 27, xs := [] } [])
                                          (AC.seq
                                            (AC.reg
                                              [{ dst := some 28, op := Op.move (Operand.tmp 6), g := none },
                                                { dst := some 29, op := Op.move (Operand.tmp 7), g := none },
                                                { dst := some 30,
                                                  op :=
                                                    Op.call
                                                      { callee := Callee.value (Operand.func 38),
                                                        args :=
                                                          #[Operand.tmp 28, Operand.const (Value.bool true),
                                                                Operand.tmp 29],
                                                        argTypes := #[29, 4, 3] },
                                                  g := none },
                                                { dst := some 31, op := Op.move (Operand.tmp 8), g := none },
                                                { dst := some 32, op := Op.move (Operand.tmp 5), g := none },
                                                { dst := some 33,
                                                  op :=
                                                    Op.call
                                                      { callee := Callee.value (Operand.func 38),
                                                        args :=
                                                          #[Operand.tmp 31, Operand.const (Value.bool false),
                                                                Operand.tmp 32],
                                                        argTypes := #[29, 4, 3] },
                                                  g := none },
                                                { dst := some 9, op := Op.assign (Operand.tmp 30), g := none },
                                                { dst := some 10, op := Op.assign (Operand.tmp 33), g := none }]
                                              { lo := 28, hi := 33, xs := [] } [])
                                            (AC.seq
                                              (AC.seq
                                                (AC.reg
                                                  [{ dst := some 34, op := Op.move (Operand.tmp 10), g := none },
                                                    { dst := some 35,
                                                      op :=
                                                        Op.call
                                                          { callee := Callee.builtin Builtin.len,
                                                            args := #[Operand.tmp 34],
                                                            argTypes := #[51] },
                                                      g := none },
                                                    { dst := some 36, op := Op.move (Operand.tmp 9), g := none },
                                                    { dst := some 37,
                                                      op :=
                                                        Op.call
                                                          { callee := Callee.builtin Builtin.len,
                                                            args := #[Operand.tmp 36],
                                                            argTypes := #[51] },
                                                      g := none },
                                                    { dst := some 38,
                                                      op :=
                                                        Op.call
                                                          { callee := Callee.value (Operand.func 39),
                                                            args := #[Operand.tmp 35, Operand.tmp 37],
                                                            argTypes := #[3, 3] },
                                                      g := none },
                                                    { dst := some 39,
                                                      op :=
                                                        Op.binOp BinOp.gtr 3 (Operand.tmp 38)
                                                          (Operand.const (Value.int IntKind.i64 0)) 3,
                                                      g := none },
                                                    { dst := some 40, op := Op.move (Operand.tmp 39), g := none },
                                                    { dst := some 41, op := Op.move (Operand.tmp 10),
                                                      g := some (40, false) },
                                                    { dst := some 42, op := Op.move (Operand.tmp 9),
                                                      g := some (40, false) },
                                                    { dst := some 43, op := Op.move (Operand.tmp 10),
                                                      g := some (40, false) },
                                                    { dst := some 44,
                                                      op :=
                                                        Op.call
                                                          { callee := Callee.builtin Builtin.len,
                                                            args := #[Operand.tmp 43],
                                                            argTypes := #[51] },
                                                      g := some (40, false) },
                                                    { dst := some 45,
                                                      op :=
                                                        Op.slice 51 (Operand.tmp 42) none (some (Operand.tmp 44)) none,
                                                      g := some (40, false) },
                                                    { dst := some 46,
                                                      op :=
                                                        Op.call
                                                          { callee := Callee.value (Operand.func 40),
                                                            args := #[Operand.tmp 41, Operand.tmp 45],
                                                            argTypes := #[51, 51] },
                                                      g := some (40, false) },
                                                    { dst := some 47, op := Op.unOp UnOp.not 4 (Operand.tmp 46),
                                                      g := some (40, false) },
                                                    { dst := some 48,
                                                      op :=
                                                        Op.pick (Operand.tmp 40) (Operand.const (Value.bool true))
                                                          (Operand.tmp 47),
                                                      g := none }]
                                                  { lo := 34, hi := 47, xs := [] } [])
                                                (AC.cond (Operand.tmp 48)
                                                  (AC.seq
                                                    (AC.reg
                                                      [{ dst := some 2,
                                                          op :=
                                                            Op.assign
                                                              (Operand.const (Value.int IntKind.i64 0)),
                                                          g := none },
                                                        { dst := some 3,
                                                          op := Op.assign (Operand.const (Value.bool false)), g := none }]
                                                      { lo := 1, hi := 0, xs := [] } [])
                                                    AC.ret)
                                                  AC.skip))
                                              (AC.reg
                                                [{ dst := some 49, op := Op.move (Operand.tmp 4), g := none },
                                                  { dst := some 50, op := Op.move (Operand.tmp 10), g := none },
                                                  { dst := some 51,
                                                    op :=
                                                      Op.call
                                                        { callee := Callee.builtin Builtin.len,
                                                          args := #[Operand.tmp 50],
                                                          argTypes := #[51] },
                                                    g := none },
                                                  { dst := some 52,
                                                    op := Op.binOp BinOp.add 3 (Operand.tmp 49) (Operand.tmp 51) 3,
                                                    g := none },
                                                  { dst := some 4, op := Op.assign (Operand.tmp 52), g := none }]
                                                { lo := 49, hi := 52, xs := [] } [])))))
                                      (AC.reg
                                        [{ dst := some 53,
                                            op :=
                                              Op.binOp BinOp.add 3 (Operand.tmp 23)
                                                (Operand.const (Value.int IntKind.i64 1)) 3,
                                            g := none },
                                          { dst := some 23, op := Op.move (Operand.tmp 53), g := none }]
                                        { lo := 53, hi := 53, xs := [] } [])))))))))
                      (AC.reg
                        [{ dst := some 54,
                            op :=
                              Op.binOp BinOp.add 3 (Operand.tmp 16) (Operand.const (Value.int IntKind.i64 1))
                                3,
                            g := none },
                          { dst := some 16, op := Op.move (Operand.tmp 54), g := none }]
                        { lo := 54, hi := 54, xs := [] } [])))))))
          (AC.seq
            (AC.reg
              [{ dst := some 55, op := Op.move (Operand.tmp 4), g := none },
                { dst := some 2, op := Op.assign (Operand.tmp 55), g := none },
                { dst := some 3, op := Op.assign (Operand.const (Value.bool true)), g := none }]
              { lo := 55, hi := 55, xs := [] } [])
            AC.ret))))

theorem e28 : slim (Try.f28.body.getD .skip) = c28 := by kernel_rfl
theorem b28 : Try.f28.body = some (Try.f28.body.getD .skip) := by kernel_rfl
theorem d28 : textOk Try.prog 56 (Try.f28.body.getD .skip) = true := by kernel_rfl
theorem r28 : Try.f28.results.toList = [ResultVar.tmp 2, ResultVar.tmp 3] := by kernel_rfl
theorem n28 : Try.f28.name ≠ "runtime.NumGoroutine" := by decide
end Go.Av
