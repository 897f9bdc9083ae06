/- Part of a proof by symbolic walks on plain data. -/
import Derived.Test.YtpnpnldabhmojaaF8
import Derived.Test.YtpnpnldabhmojaaProg
set_option linter.unusedVariables false
set_option linter.unusedSimpArgs false
namespace Go.Av
open Go Go.RowKit Go.Proofs
def c3 : AC :=
  AC.seq
    (AC.reg [{ dst := some 6, op := Op.assign (Operand.const (Value.bool false)), g := none }]
      { lo := 1, hi := 0, xs := [] } [])
    (AC.seq
      (AC.seq
        (AC.reg
          [{ dst := some 12,
              op :=
                Op.call
                  { callee := Callee.value (Operand.func 11), args := #[], argTypes := #[] },
              g := none },
            { dst := some 13, op := Op.unOp UnOp.not 4 (Operand.tmp 12), g := none },
            { dst := some 14, op := Op.move (Operand.tmp 13), g := none },
            { dst := some 15, op := Op.move (Operand.tmp 0), g := some (14, false) },
            { dst := some 16,
              op :=
                Op.call
                  { callee := Callee.builtin Builtin.len, args := #[Operand.tmp 15],
                    argTypes := #[22] },
              g := some (14, false) },
            { dst := some 17,
              op := Op.binOp BinOp.gtr 3 (Operand.tmp 16) (Operand.const (Value.int IntKind.i64 20)) 3,
              g := some (14, false) },
            { dst := some 18, op := Op.pick (Operand.tmp 14) (Operand.const (Value.bool true)) (Operand.tmp 17),
              g := none },
            { dst := some 19, op := Op.move (Operand.tmp 18), g := none },
            { dst := some 20, op := Op.move (Operand.tmp 1), g := some (19, false) },
            { dst := some 21,
              op :=
                Op.call
                  { callee := Callee.builtin Builtin.len, args := #[Operand.tmp 20],
                    argTypes := #[22] },
              g := some (19, false) },
            { dst := some 22,
              op := Op.binOp BinOp.gtr 3 (Operand.tmp 21) (Operand.const (Value.int IntKind.i64 20)) 3,
              g := some (19, false) },
            { dst := some 23, op := Op.pick (Operand.tmp 19) (Operand.const (Value.bool true)) (Operand.tmp 22),
              g := none }]
          { lo := 12, hi := 22, xs := [] } [])
        (AC.cond (Operand.tmp 23)
          (AC.seq
            (AC.reg
              [{ dst := some 24,
                  op :=
                    Op.call
                      { callee := Callee.value (Operand.func 11), args := #[],
                        argTypes := #[] },
                  g := none },
                { dst := some 6, op := Op.assign (Operand.tmp 24), g := none }]
              { lo := 24, hi := 24, xs := [] } [])
            AC.ret)
          AC.skip))
      (AC.seq
        (AC.reg
          [{ dst := some 25, op := Op.move (Operand.tmp 0), g := none },
            { dst := some 26, op := Op.move (Operand.tmp 2), g := none },
            { dst := some 27,
              op :=
                Op.call
                  { callee := Callee.value (Operand.func 12), args := #[Operand.tmp 25, Operand.tmp 26],
                    argTypes := #[22, 3] },
              g := none },
            { dst := some 28, op := Op.move (Operand.tmp 0), g := none },
            { dst := some 29, op := Op.move (Operand.tmp 2), g := none },
            { dst := some 30,
              op :=
                Op.call
                  { callee := Callee.value (Operand.func 13), args := #[Operand.tmp 28, Operand.tmp 29],
                    argTypes := #[22, 3] },
              g := none },
            { dst := some 7, op := Op.assign (Operand.tmp 27), g := none },
            { dst := some 8, op := Op.assign (Operand.tmp 30), g := none }]
          { lo := 25, hi := 30, xs := [] } [])
        (AC.seq
          (AC.seq
            (AC.reg
              [{ dst := some 31, op := Op.move (Operand.tmp 7), g := none },
                { dst := some 32,
                  op :=
                    Op.call
                      { callee := Callee.builtin Builtin.len, args := #[Operand.tmp 31],
                        argTypes := #[24] },
                  g := none },
                { dst := some 33, op := Op.move (Operand.tmp 8), g := none },
                { dst := some 34,
                  op :=
                    Op.call
                      { callee := Callee.builtin Builtin.len, args := #[Operand.tmp 33],
                        argTypes := #[24] },
                  g := none },
                { dst := some 35, op := Op.binOp BinOp.neq 3 (Operand.tmp 32) (Operand.tmp 34) 3, g := none },
                { dst := some 36, op := Op.move (Operand.tmp 35), g := none },
                { dst := some 37, op := Op.move (Operand.tmp 0), g := some (36, false) },
                { dst := some 38, op := Op.move (Operand.tmp 1), g := some (36, false) },
                { dst := some 39,
                  op :=
                    Op.call
                      { callee := Callee.value (Operand.func 14), args := #[Operand.tmp 37, Operand.tmp 38],
                        argTypes := #[22, 22] },
                  g := some (36, false) },
                { dst := some 40, op := Op.move (Operand.tmp 0), g := some (36, false) },
                { dst := some 41, op := Op.move (Operand.tmp 1), g := some (36, false) },
                { dst := some 42,
                  op :=
                    Op.call
                      { callee := Callee.value (Operand.func 15), args := #[Operand.tmp 40, Operand.tmp 41],
                        argTypes := #[22, 22] },
                  g := some (36, false) },
                { dst := some 43, op := Op.binOp BinOp.neq 4 (Operand.tmp 39) (Operand.tmp 42) 4, g := some (36, false) },
                { dst := some 44, op := Op.pick (Operand.tmp 36) (Operand.const (Value.bool true)) (Operand.tmp 43),
                  g := none },
                { dst := some 45, op := Op.move (Operand.tmp 44), g := none },
                { dst := some 46, op := Op.move (Operand.tmp 0), g := some (45, false) },
                { dst := some 47, op := Op.move (Operand.tmp 0), g := some (45, false) },
                { dst := some 48,
                  op :=
                    Op.call
                      { callee := Callee.value (Operand.func 14), args := #[Operand.tmp 46, Operand.tmp 47],
                        argTypes := #[22, 22] },
                  g := some (45, false) },
                { dst := some 49, op := Op.unOp UnOp.not 4 (Operand.tmp 48), g := some (45, false) },
                { dst := some 50, op := Op.pick (Operand.tmp 45) (Operand.const (Value.bool true)) (Operand.tmp 49),
                  g := none },
                { dst := some 51, op := Op.move (Operand.tmp 50), g := none },
                { dst := some 52, op := Op.move (Operand.tmp 0), g := some (51, false) },
                { dst := some 53,
                  op :=
                    Op.call
                      { callee := Callee.value (Operand.func 17), args := #[Operand.tmp 52],
                        argTypes := #[22] },
                  g := some (51, false) },
                { dst := some 54, op := Op.move (Operand.tmp 0), g := some (51, false) },
                { dst := some 55,
                  op :=
                    Op.call
                      { callee := Callee.value (Operand.func 18), args := #[Operand.tmp 54],
                        argTypes := #[22] },
                  g := some (51, false) },
                { dst := some 56,
                  op :=
                    Op.call
                      { callee := Callee.value (Operand.func 16), args := #[Operand.tmp 53, Operand.tmp 55],
                        argTypes := #[22, 22] },
                  g := some (51, false) },
                { dst := some 57, op := Op.unOp UnOp.not 4 (Operand.tmp 56), g := some (51, false) },
                { dst := some 58, op := Op.pick (Operand.tmp 51) (Operand.const (Value.bool true)) (Operand.tmp 57),
                  g := none }]
              { lo := 31, hi := 57, xs := [] } [])
            (AC.cond (Operand.tmp 58)
              (AC.seq
                (AC.reg [{ dst := some 6, op := Op.assign (Operand.const (Value.bool false)), g := none }]
                  { lo := 1, hi := 0, xs := [] } [])
                AC.ret)
              AC.skip))
          (AC.seq
            (AC.seq
              (AC.reg
                [{ dst := some 59, op := Op.move (Operand.tmp 7), g := none },
                  { dst := some 60,
                    op :=
                      Op.call
                        { callee := Callee.builtin Builtin.len, args := #[Operand.tmp 59],
                          argTypes := #[24] },
                    g := none },
                  { dst := some 61, op := Op.move (Operand.const (Value.int IntKind.i64 0)), g := none }]
                { lo := 59, hi := 59, xs := [] } [])
              (AC.block 0
                (AC.loop
                  (AC.seq
                    (AC.reg
                      [{ dst := some 62, op := Op.binOp BinOp.lss 3 (Operand.tmp 61) (Operand.tmp 60) 3, g := none }]
                      { lo := 1, hi := 0, xs := [] } [])
                    (AC.seq (AC.cond (Operand.tmp 62) AC.skip (AC.exit 0))
                      (AC.seq
                        (AC.block 1
                          (AC.seq
                            (AC.reg
                              [{ dst := some 63, op := Op.move (Operand.tmp 61), g := none },
                                { dst := some 9, op := Op.assign (Operand.tmp 63), g := none }]
                              { lo := 63, hi := 63, xs := [] } [])
                            (AC.seq
                              (AC.drw
                                [{ o := { dst := some 64, op := Op.move (Operand.tmp 7), g := none }, kn := [] },
                                  { o := { dst := some 65, op := Op.move (Operand.tmp 9), g := none }, kn := [] },
                                  {
                                    o :=
                                      { dst := some 66, op := Op.indexAddr 24 (Operand.tmp 64) (Operand.tmp 65),
                                        g := none },
                                    kn := [64, 65] },
                                  { o := { dst := some 67, op := Op.load 29 (Operand.tmp 66), g := none },
                                    kn := [66, 64, 65] },
                                  { o := { dst := some 68, op := Op.move (Operand.tmp 8), g := none }, kn := [] },
                                  { o := { dst := some 69, op := Op.move (Operand.tmp 9), g := none }, kn := [] },
                                  {
                                    o :=
                                      { dst := some 70, op := Op.indexAddr 24 (Operand.tmp 68) (Operand.tmp 69),
                                        g := none },
                                    kn := [68, 69] },
                                  { o := { dst := some 71, op := Op.load 29 (Operand.tmp 70), g := none },
                                    kn := [70, 68, 69] },
                                  {
                                    o :=
                                      { dst := some 72,
                                        op :=
                                          Op.call
                                            { callee := Callee.value (Operand.func 19),
                                              args := #[Operand.tmp 67, Operand.tmp 71],
                                              argTypes := #[29, 29] },
                                        g := none },
                                    kn := [67, 66, 64, 65, 71, 70, 68, 69] },
                                  { o := { dst := some 73, op := Op.unOp UnOp.not 4 (Operand.tmp 72), g := none },
                                    kn := [72, 67, 66, 64, 65, 71, 70, 68, 69] }]
                                [] { lo := 64, hi := 73, xs := [] } { lo := 64, hi := 72, xs := [] } [])
                              (AC.cond (Operand.tmp 73)
                                (AC.seq
                                  (AC.reg
                                    [{ dst := some 6, op := Op.assign (Operand.const (Value.bool false)), g := none }]
                                    { lo := 1, hi := 0, xs := [] } [])
                                  AC.ret)
                                AC.skip))))
                        (AC.reg
                          [{ dst := some 74,
                              op :=
                                Op.binOp BinOp.add 3 (Operand.tmp 61)
                                  (Operand.const (Value.int IntKind.i64 1)) 3,
                              g := none },
                            { dst := some 61, op := Op.move (Operand.tmp 74), g := none }]
                          { lo := 74, hi := 74, xs := [] } [])))))))
            (AC.seq
              (AC.seq
                (AC.reg
                  [{ dst := some 75, op := Op.move (Operand.tmp 0), g := none },
                    { dst := some 76,
                      op :=
                        Op.call
                          { callee := Callee.builtin Builtin.len, args := #[Operand.tmp 75],
                            argTypes := #[22] },
                      g := none },
                    { dst := some 77, op := Op.move (Operand.const (Value.int IntKind.i64 0)), g := none }]
                  { lo := 75, hi := 75, xs := [] } [])
                (AC.block 2
                  (AC.loop
                    (AC.seq
                      (AC.reg
                        [{ dst := some 78, op := Op.binOp BinOp.lss 3 (Operand.tmp 77) (Operand.tmp 76) 3, g := none }]
                        { lo := 1, hi := 0, xs := [] } [])
                      (AC.seq (AC.cond (Operand.tmp 78) AC.skip (AC.exit 2))
                        (AC.seq
                          (AC.block 3
                            (AC.seq
                              (AC.reg
                                [{ dst := some 79, op := Op.move (Operand.tmp 77), g := none },
                                  { dst := some 10, op := Op.assign (Operand.tmp 79), g := none }]
                                { lo := 79, hi := 79, xs := [] } [])
                              (AC.seq
                                (AC.reg
                                  [{ dst := some 80, op := Op.move (Operand.tmp 1), g := none },
                                    { dst := some 81,
                                      op :=
                                        Op.call
                                          { callee := Callee.builtin Builtin.len, args := #[Operand.tmp 80],
                                            argTypes := #[22] },
                                      g := none },
                                    { dst := some 82, op := Op.move (Operand.const (Value.int IntKind.i64 0)),
                                      g := none }]
                                  { lo := 80, hi := 80, xs := [] } [])
                                (AC.block 4
                                  (AC.loop
                                    (AC.seq
                                      (AC.reg
                                        [{ dst := some 83, op := Op.binOp BinOp.lss 3 (Operand.tmp 82) (Operand.tmp 81) 3,
                                            g := none }]
                                        { lo := 1, hi := 0, xs := [] } [])
                                      (AC.seq (AC.cond (Operand.tmp 83) AC.skip (AC.exit 4))
                                        (AC.seq
                                          (AC.block 5
                                            (AC.seq
                                              (AC.reg
                                                [{ dst := some 84, op := Op.move (Operand.tmp 82), g := none },
                                                  { dst := some 11, op := Op.assign (Operand.tmp 84), g := none }]
                                                { lo := 84, hi := 84, xs := [] } [])
                                              (AC.seq
                                                (AC.drw
                                                  [{ o := { dst := some 85, op := Op.move (Operand.tmp 0), g := none },
                                                      kn := [] },
                                                    { o := { dst := some 86, op := Op.move (Operand.tmp 10), g := none },
                                                      kn := [] },
                                                    {
                                                      o :=
                                                        { dst := some 87,
                                                          op := Op.indexAddr 22 (Operand.tmp 85) (Operand.tmp 86),
                                                          g := none },
                                                      kn := [85, 86] },
                                                    {
                                                      o :=
                                                        { dst := some 88, op := Op.load 32 (Operand.tmp 87), g := none },
                                                      kn := [87, 85, 86] },
                                                    { o := { dst := some 89, op := Op.move (Operand.tmp 1), g := none },
                                                      kn := [] },
                                                    { o := { dst := some 90, op := Op.move (Operand.tmp 11), g := none },
                                                      kn := [] },
                                                    {
                                                      o :=
                                                        { dst := some 91,
                                                          op := Op.indexAddr 22 (Operand.tmp 89) (Operand.tmp 90),
                                                          g := none },
                                                      kn := [89, 90] },
                                                    {
                                                      o :=
                                                        { dst := some 92, op := Op.load 32 (Operand.tmp 91), g := none },
                                                      kn := [91, 89, 90] },
                                                    {
                                                      o :=
                                                        { dst := some 93,
                                                          op :=
                                                            Op.call
                                                              { callee := Callee.value (Operand.func 20),
                                                                args := #[Operand.tmp 88, Operand.tmp 92],
                                                                argTypes := #[32, 32] },
                                                          g := none },
                                                      kn := [88, 87, 85, 86, 92, 91, 89, 90] },
                                                    { o := { dst := some 94, op := Op.move (Operand.tmp 0), g := none },
                                                      kn := [] },
                                                    { o := { dst := some 95, op := Op.move (Operand.tmp 10), g := none },
                                                      kn := [] },
                                                    {
                                                      o :=
                                                        { dst := some 96,
                                                          op := Op.indexAddr 22 (Operand.tmp 94) (Operand.tmp 95),
                                                          g := none },
                                                      kn := [94, 95] },
                                                    {
                                                      o :=
                                                        { dst := some 97, op := Op.load 32 (Operand.tmp 96), g := none },
                                                      kn := [96, 94, 95] },
                                                    { o := { dst := some 98, op := Op.move (Operand.tmp 1), g := none },
                                                      kn := [] },
                                                    { o := { dst := some 99, op := Op.move (Operand.tmp 11), g := none },
                                                      kn := [] },
                                                    {
                                                      o :=
                                                        { dst := some 100,
                                                          op := Op.indexAddr 22 (Operand.tmp 98) (Operand.tmp 99),
                                                          g := none },
                                                      kn := [98, 99] },
                                                    {
                                                      o :=
                                                        { dst := some 101, op := Op.load 32 (Operand.tmp 100),
                                                          g := none },
                                                      kn := [100, 98, 99] },
                                                    {
                                                      o :=
                                                        { dst := some 102,
                                                          op :=
                                                            Op.call
                                                              { callee := Callee.value (Operand.func 21),
                                                                args := #[Operand.tmp 97, Operand.tmp 101],
                                                                argTypes := #[32, 32] },
                                                          g := none },
                                                      kn := [97, 96, 94, 95, 101, 100, 98, 99] },
                                                    {
                                                      o :=
                                                        { dst := some 103,
                                                          op := Op.binOp BinOp.neq 4 (Operand.tmp 93) (Operand.tmp 102) 4,
                                                          g := none },
                                                      kn :=
                                                        [93, 88, 87, 85, 86, 92, 91, 89, 90, 102, 97, 96, 94, 95, 101,
                                                          100, 98, 99] }]
                                                  [] { lo := 85, hi := 103, xs := [] } { lo := 85, hi := 102, xs := [] }
                                                  [])
                                                (AC.cond (Operand.tmp 103)
                                                  (AC.seq
                                                    (AC.reg
                                                      [{ dst := some 6,
                                                          op := Op.assign (Operand.const (Value.bool false)), g := none }]
                                                      { lo := 1, hi := 0, xs := [] } [])
                                                    AC.ret)
                                                  AC.skip))))
                                          (AC.reg
                                            [{ dst := some 104,
                                                op :=
                                                  Op.binOp BinOp.add 3 (Operand.tmp 82)
                                                    (Operand.const (Value.int IntKind.i64 1)) 3,
                                                g := none },
                                              { dst := some 82, op := Op.move (Operand.tmp 104), g := none }]
                                            { lo := 104, hi := 104, xs := [] } [])))))))))
                          (AC.reg
                            [{ dst := some 105,
                                op :=
                                  Op.binOp BinOp.add 3 (Operand.tmp 77)
                                    (Operand.const (Value.int IntKind.i64 1)) 3,
                                g := none },
                              { dst := some 77, op := Op.move (Operand.tmp 105), g := none }]
                            { lo := 105, hi := 105, xs := [] } [])))))))
              (AC.seq
                (AC.reg [{ dst := some 6, op := Op.assign (Operand.const (Value.bool true)), g := none }]
                  { lo := 1, hi := 0, xs := [] } [])
                AC.ret))))))

theorem e3 : slim (Try.f3.body.getD .skip) = c3 := by kernel_rfl
theorem b3 : Try.f3.body = some (Try.f3.body.getD .skip) := by kernel_rfl
theorem d3 : textOk Try.prog 106 (Try.f3.body.getD .skip) = true := by kernel_rfl
theorem r3 : Try.f3.results.toList = [ResultVar.tmp 6] := by kernel_rfl
theorem n3 : Try.f3.name ≠ "runtime.NumGoroutine" := by decide
end Go.Av
