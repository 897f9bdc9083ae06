/- Part of a proof by symbolic walks on plain data. -/
import Derived.Test.YtpnpnldabhmojaaF8
import Derived.Test.YtpnpnldabhmojaaProg
set_option linter.unusedVariables false
set_option linter.unusedSimpArgs false
namespace Go.Av
open Go Go.RowKit Go.Proofs
def c29 : AC :=
  AC.seq
    (AC.reg
      [{ dst := some 2, op := Op.assign (Operand.const (Value.int IntKind.i64 0)), g := none },
        { dst := some 3, op := Op.assign (Operand.const (Value.bool false)), g := none }]
      { lo := 1, hi := 0, xs := [] } [])
    (AC.seq
      (AC.seq
        (AC.reg
          [{ dst := some 10, op := Op.move (Operand.tmp 0), g := none },
            { dst := some 11,
              op :=
                Op.call
                  { callee := Callee.value (Operand.func 37), args := #[Operand.tmp 10],
                    argTypes := #[24] },
              g := none },
            { dst := some 12, op := Op.unOp UnOp.not 4 (Operand.tmp 11), g := none }]
          { lo := 10, hi := 11, xs := [] } [])
        (AC.cond (Operand.tmp 12)
          (AC.seq
            (AC.reg
              [{ dst := some 2, op := Op.assign (Operand.const (Value.int IntKind.i64 0)), g := none },
                { dst := some 3, op := Op.assign (Operand.const (Value.bool false)), g := none }]
              { lo := 1, hi := 0, xs := [] } [])
            AC.ret)
          AC.skip))
      (AC.seq
        (AC.reg [{ dst := some 4, op := Op.assign (Operand.const (Value.int IntKind.i64 0)), g := none }]
          { lo := 1, hi := 0, xs := [] } [])
        (AC.seq
          (AC.seq
            (AC.reg [{ dst := some 5, op := Op.assign (Operand.const (Value.int IntKind.i64 0)), g := none }]
              { lo := 1, hi := 0, xs := [] } [])
            (AC.block 0
              (AC.loop
                (AC.seq
                  (AC.seq
                    (AC.reg
                      [{ dst := some 13, op := Op.move (Operand.tmp 5), g := none },
                        { dst := some 14, op := Op.move (Operand.tmp 0), g := none },
                        { dst := some 15,
                          op :=
                            Op.call
                              { callee := Callee.builtin Builtin.len, args := #[Operand.tmp 14],
                                argTypes := #[24] },
                          g := none },
                        { dst := some 16, op := Op.binOp BinOp.lss 3 (Operand.tmp 13) (Operand.tmp 15) 3, g := none }]
                      { lo := 13, hi := 15, xs := [] } [])
                    (AC.cond (Operand.tmp 16) AC.skip (AC.exit 0)))
                  (AC.seq
                    (AC.block 1
                      (AC.seq
                        (AC.reg
                          [{ dst := some 6, op := Op.assign (Operand.const (Value.int IntKind.i64 0)),
                              g := none }]
                          { lo := 1, hi := 0, xs := [] } [])
                        (AC.block 2
                          (AC.loop
                            (AC.seq
                              (AC.seq
                                (AC.reg
                                  [{ dst := some 19, op := Op.move (Operand.tmp 6), g := none },
                                    { dst := some 20, op := Op.move (Operand.tmp 0), g := none },
                                    { dst := some 21,
                                      op :=
                                        Op.call
                                          { callee := Callee.builtin Builtin.len, args := #[Operand.tmp 20],
                                            argTypes := #[24] },
                                      g := none },
                                    { dst := some 22, op := Op.binOp BinOp.lss 3 (Operand.tmp 19) (Operand.tmp 21) 3,
                                      g := none }]
                                  { lo := 19, hi := 21, xs := [] } [])
                                (AC.cond (Operand.tmp 22) AC.skip (AC.exit 2)))
                              (AC.seq
                                (AC.block 3
                                  (AC.seq
                                    (AC.drw
                                      [{ o := { dst := some 25, op := Op.move (Operand.tmp 0), g := none }, kn := [] },
                                        { o := { dst := some 26, op := Op.move (Operand.tmp 5), g := none }, kn := [] },
                                        {
                                          o :=
                                            { dst := some 27, op := Op.indexAddr 24 (Operand.tmp 25) (Operand.tmp 26),
                                              g := none },
                                          kn := [25, 26] },
                                        { o := { dst := some 28, op := Op.load 29 (Operand.tmp 27), g := none },
                                          kn := [27, 25, 26] },
                                        { o := { dst := some 29, op := Op.move (Operand.tmp 6), g := none }, kn := [] },
                                        {
                                          o :=
                                            { dst := some 30,
                                              op :=
                                                Op.call
                                                  { callee := Callee.value (Operand.func 41),
                                                    args :=
                                                      #[Operand.tmp 28, Operand.const (Value.bool false),
                                                            Operand.tmp 29],
                                                    argTypes := #[29, 4, 3] },
                                              g := none },
                                          kn := [28, 27, 25, 26, 29] },
                                        { o := { dst := some 31, op := Op.move (Operand.tmp 0), g := none }, kn := [] },
                                        { o := { dst := some 32, op := Op.move (Operand.tmp 6), g := none }, kn := [] },
                                        {
                                          o :=
                                            { dst := some 33, op := Op.indexAddr 24 (Operand.tmp 31) (Operand.tmp 32),
                                              g := none },
                                          kn := [31, 32] },
                                        { o := { dst := some 34, op := Op.load 29 (Operand.tmp 33), g := none },
                                          kn := [33, 31, 32] },
                                        { o := { dst := some 35, op := Op.move (Operand.tmp 5), g := none }, kn := [] },
                                        {
                                          o :=
                                            { dst := some 36,
                                              op :=
                                                Op.call
                                                  { callee := Callee.value (Operand.func 41),
                                                    args :=
                                                      #[Operand.tmp 34, Operand.const (Value.bool true),
                                                            Operand.tmp 35],
                                                    argTypes := #[29, 4, 3] },
                                              g := none },
                                          kn := [34, 33, 31, 32, 35] }]
                                      [{ o := { dst := some 7, op := Op.assign (Operand.tmp 30), g := none },
                                          kn := [30, 28, 27, 25, 26, 29], un := [] },
                                        { o := { dst := some 8, op := Op.assign (Operand.tmp 36), g := none },
                                          kn := [36, 34, 33, 31, 32, 35], un := [] }]
                                      { lo := 25, hi := 36, xs := [] } { lo := 25, hi := 36, xs := [] } [])
                                    (AC.seq
                                      (AC.seq
                                        (AC.reg
                                          [{ dst := some 9,
                                              op := Op.assign (Operand.const (Value.int IntKind.i64 0)),
                                              g := none }]
                                          { lo := 1, hi := 0, xs := [] } [])
                                        (AC.block 4
                                          (AC.loop
                                            (AC.seq
                                              (AC.seq
                                                (AC.reg
                                                  [{ dst := some 37, op := Op.move (Operand.tmp 9), g := none },
                                                    { dst := some 38, op := Op.move (Operand.tmp 7), g := none },
                                                    { dst := some 39,
                                                      op :=
                                                        Op.call
                                                          { callee := Callee.builtin Builtin.len,
                                                            args := #[Operand.tmp 38],
                                                            argTypes := #[51] },
                                                      g := none },
                                                    { dst := some 40,
                                                      op := Op.binOp BinOp.lss 3 (Operand.tmp 37) (Operand.tmp 39) 3,
                                                      g := none }]
                                                  { lo := 37, hi := 39, xs := [] } [])
                                                (AC.cond (Operand.tmp 40) AC.skip (AC.exit 4)))
                                              (AC.seq
                                                (AC.block 5
                                                  (AC.seq
                                                    (AC.drw
                                                      [{
                                                          o :=
                                                            { dst := some 43, op := Op.move (Operand.tmp 9), g := none },
                                                          kn := [] },
                                                        {
                                                          o :=
                                                            { dst := some 44, op := Op.move (Operand.tmp 8), g := none },
                                                          kn := [] },
                                                        {
                                                          o :=
                                                            { dst := some 45,
                                                              op :=
                                                                Op.call
                                                                  { callee := Callee.builtin Builtin.len,
                                                                    args := #[Operand.tmp 44],
                                                                    argTypes := #[51] },
                                                              g := none },
                                                          kn := [44] },
                                                        {
                                                          o :=
                                                            { dst := some 46,
                                                              op :=
                                                                Op.binOp BinOp.geq 3 (Operand.tmp 43) (Operand.tmp 45) 3,
                                                              g := none },
                                                          kn := [43, 45, 44] },
                                                        {
                                                          o :=
                                                            { dst := some 47, op := Op.move (Operand.tmp 46), g := none },
                                                          kn := [46, 43, 45, 44] },
                                                        {
                                                          o :=
                                                            { dst := some 48, op := Op.move (Operand.tmp 7),
                                                              g := some (47, false) },
                                                          kn := [47, 46, 43, 45, 44] },
                                                        {
                                                          o :=
                                                            { dst := some 49, op := Op.move (Operand.tmp 9),
                                                              g := some (47, false) },
                                                          kn := [47, 46, 43, 45, 44] },
                                                        {
                                                          o :=
                                                            { dst := some 50,
                                                              op := Op.indexAddr 51 (Operand.tmp 48) (Operand.tmp 49),
                                                              g := some (47, false) },
                                                          kn := [48, 49, 47, 46, 43, 45, 44] },
                                                        {
                                                          o :=
                                                            { dst := some 51, op := Op.load 3 (Operand.tmp 50),
                                                              g := some (47, false) },
                                                          kn := [50, 48, 49, 47, 46, 43, 45, 44] },
                                                        {
                                                          o :=
                                                            { dst := some 52, op := Op.move (Operand.tmp 8),
                                                              g := some (47, false) },
                                                          kn := [47, 46, 43, 45, 44] },
                                                        {
                                                          o :=
                                                            { dst := some 53, op := Op.move (Operand.tmp 9),
                                                              g := some (47, false) },
                                                          kn := [47, 46, 43, 45, 44] },
                                                        {
                                                          o :=
                                                            { dst := some 54,
                                                              op := Op.indexAddr 51 (Operand.tmp 52) (Operand.tmp 53),
                                                              g := some (47, false) },
                                                          kn := [52, 53, 47, 46, 43, 45, 44] },
                                                        {
                                                          o :=
                                                            { dst := some 55, op := Op.load 3 (Operand.tmp 54),
                                                              g := some (47, false) },
                                                          kn := [54, 52, 53, 47, 46, 43, 45, 44] },
                                                        {
                                                          o :=
                                                            { dst := some 56,
                                                              op :=
                                                                Op.binOp BinOp.neq 3 (Operand.tmp 51) (Operand.tmp 55) 3,
                                                              g := some (47, false) },
                                                          kn := [51, 50, 48, 49, 55, 54, 52, 53, 47, 46, 43, 45, 44] },
                                                        {
                                                          o :=
                                                            { dst := some 57,
                                                              op :=
                                                                Op.pick (Operand.tmp 47) (Operand.const (Value.bool true))
                                                                  (Operand.tmp 56),
                                                              g := none },
                                                          kn :=
                                                            [56, 51, 50, 48, 49, 55, 54, 52, 53, 47, 46, 43, 45, 44] }]
                                                      [] { lo := 43, hi := 57, xs := [] } { lo := 43, hi := 56, xs := [] }
                                                      [])
                                                    (AC.cond (Operand.tmp 57)
                                                      (AC.seq
                                                        (AC.reg
                                                          [{ dst := some 2,
                                                              op :=
                                                                Op.assign
                                                                  (Operand.const (Value.int IntKind.i64 0)),
                                                              g := none },
                                                            { dst := some 3,
                                                              op := Op.assign (Operand.const (Value.bool false)),
                                                              g := none }]
                                                          { lo := 1, hi := 0, xs := [] } [])
                                                        AC.ret)
                                                      AC.skip)))
                                                (AC.reg
                                                  [{ dst := some 41, op := Op.move (Operand.tmp 9), g := none },
                                                    { dst := some 42,
                                                      op :=
                                                        Op.binOp BinOp.add 3 (Operand.tmp 41)
                                                          (Operand.const (Value.int IntKind.i64 1)) 3,
                                                      g := none },
                                                    { dst := some 9, op := Op.assign (Operand.tmp 42), g := none }]
                                                  { lo := 41, hi := 42, xs := [] } []))))))
                                      (AC.reg
                                        [{ dst := some 58, op := Op.move (Operand.tmp 4), g := none },
                                          { dst := some 59, op := Op.move (Operand.tmp 7), g := none },
                                          { dst := some 60,
                                            op :=
                                              Op.call
                                                { callee := Callee.builtin Builtin.len,
                                                  args := #[Operand.tmp 59],
                                                  argTypes := #[51] },
                                            g := none },
                                          { dst := some 61,
                                            op := Op.binOp BinOp.add 3 (Operand.tmp 58) (Operand.tmp 60) 3, g := none },
                                          { dst := some 4, op := Op.assign (Operand.tmp 61), g := none }]
                                        { lo := 58, hi := 61, xs := [] } []))))
                                (AC.reg
                                  [{ dst := some 23, op := Op.move (Operand.tmp 6), g := none },
                                    { dst := some 24,
                                      op :=
                                        Op.binOp BinOp.add 3 (Operand.tmp 23)
                                          (Operand.const (Value.int IntKind.i64 1)) 3,
                                      g := none },
                                    { dst := some 6, op := Op.assign (Operand.tmp 24), g := none }]
                                  { lo := 23, hi := 24, xs := [] } [])))))))
                    (AC.reg
                      [{ dst := some 17, op := Op.move (Operand.tmp 5), g := none },
                        { dst := some 18,
                          op :=
                            Op.binOp BinOp.add 3 (Operand.tmp 17) (Operand.const (Value.int IntKind.i64 1)) 3,
                          g := none },
                        { dst := some 5, op := Op.assign (Operand.tmp 18), g := none }]
                      { lo := 17, hi := 18, xs := [] } []))))))
          (AC.seq
            (AC.reg
              [{ dst := some 62, op := Op.move (Operand.tmp 4), g := none },
                { dst := some 2, op := Op.assign (Operand.tmp 62), g := none },
                { dst := some 3, op := Op.assign (Operand.const (Value.bool true)), g := none }]
              { lo := 62, hi := 62, xs := [] } [])
            AC.ret))))

theorem e29 : slim (Try.f29.body.getD .skip) = c29 := by kernel_rfl
theorem b29 : Try.f29.body = some (Try.f29.body.getD .skip) := by kernel_rfl
theorem d29 : textOk Try.prog 63 (Try.f29.body.getD .skip) = true := by kernel_rfl
theorem r29 : Try.f29.results.toList = [ResultVar.tmp 2, ResultVar.tmp 3] := by kernel_rfl
theorem n29 : Try.f29.name ≠ "runtime.NumGoroutine" := by decide
end Go.Av
