/- Part of a proof by symbolic walks on plain data. -/
import Derived.Test.YtpnpnldabhmojaaF8
import Derived.Test.YtpnpnldabhmojaaProg
set_option linter.unusedVariables false
set_option linter.unusedSimpArgs false
namespace Go.Av
open Go Go.RowKit Go.Proofs
def c15 : AC :=
  AC.seq
    (AC.reg [{ dst := some 4, op := Op.assign (Operand.const (Value.bool false)), g := none }]
      { lo := 1, hi := 0, xs := [] } [])
    (AC.seq
      (AC.reg
        [{ dst := some 7, op := Op.buildSlice 22 0 #[], g := none },
          { dst := some 8, op := Op.move (Operand.tmp 0), g := none },
          { dst := some 9,
            op :=
              Op.call
                { callee := Callee.builtin Builtin.append, args := #[Operand.tmp 7, Operand.tmp 8],
                  argTypes := #[22, 22] },
            g := none },
          { dst := some 10, op := Op.move (Operand.tmp 1), g := none },
          { dst := some 11,
            op :=
              Op.call
                { callee := Callee.builtin Builtin.append, args := #[Operand.tmp 9, Operand.tmp 10],
                  argTypes := #[22, 22] },
            g := none },
          { dst := some 5, op := Op.assign (Operand.tmp 11), g := none }]
        { lo := 7, hi := 11, xs := [] } [])
      (AC.seq
        (AC.seq
          (AC.reg [{ dst := some 6, op := Op.assign (Operand.const (Value.int IntKind.i64 0)), g := none }]
            { lo := 1, hi := 0, xs := [] } [])
          (AC.block 0
            (AC.loop
              (AC.seq
                (AC.seq
                  (AC.reg
                    [{ dst := some 12, op := Op.move (Operand.tmp 6), g := none },
                      { dst := some 13, op := Op.move (Operand.tmp 5), g := none },
                      { dst := some 14,
                        op :=
                          Op.call
                            { callee := Callee.builtin Builtin.len, args := #[Operand.tmp 13],
                              argTypes := #[22] },
                        g := none },
                      { dst := some 15, op := Op.binOp BinOp.lss 3 (Operand.tmp 12) (Operand.tmp 14) 3, g := none }]
                    { lo := 12, hi := 14, xs := [] } [])
                  (AC.cond (Operand.tmp 15) AC.skip (AC.exit 0)))
                (AC.seq
                  (AC.block 1
                    (AC.seq
                      (AC.drw
                        [{ o := { dst := some 18, op := Op.move (Operand.tmp 0), g := none }, kn := [] },
                          { o := { dst := some 19, op := Op.move (Operand.tmp 5), g := none }, kn := [] },
                          { o := { dst := some 20, op := Op.move (Operand.tmp 6), g := none }, kn := [] },
                          { o := { dst := some 21, op := Op.indexAddr 22 (Operand.tmp 19) (Operand.tmp 20), g := none },
                            kn := [19, 20] },
                          { o := { dst := some 22, op := Op.fieldAddr 32 (Operand.tmp 21) 0, g := none },
                            kn := [21, 19, 20] },
                          { o := { dst := some 23, op := Op.load 3 (Operand.tmp 22), g := none },
                            kn := [22, 21, 19, 20] },
                          {
                            o :=
                              { dst := some 24,
                                op :=
                                  Op.call
                                    { callee := Callee.value (Operand.func 30),
                                      args := #[Operand.tmp 18, Operand.tmp 23],
                                      argTypes := #[22, 3] },
                                g := none },
                            kn := [18, 23, 22, 21, 19, 20] },
                          { o := { dst := some 25, op := Op.move (Operand.tmp 1), g := none }, kn := [] },
                          { o := { dst := some 26, op := Op.move (Operand.tmp 5), g := none }, kn := [] },
                          { o := { dst := some 27, op := Op.move (Operand.tmp 6), g := none }, kn := [] },
                          { o := { dst := some 28, op := Op.indexAddr 22 (Operand.tmp 26) (Operand.tmp 27), g := none },
                            kn := [26, 27] },
                          { o := { dst := some 29, op := Op.fieldAddr 32 (Operand.tmp 28) 0, g := none },
                            kn := [28, 26, 27] },
                          { o := { dst := some 30, op := Op.load 3 (Operand.tmp 29), g := none },
                            kn := [29, 28, 26, 27] },
                          {
                            o :=
                              { dst := some 31,
                                op :=
                                  Op.call
                                    { callee := Callee.value (Operand.func 30),
                                      args := #[Operand.tmp 25, Operand.tmp 30],
                                      argTypes := #[22, 3] },
                                g := none },
                            kn := [25, 30, 29, 28, 26, 27] },
                          {
                            o :=
                              { dst := some 32,
                                op :=
                                  Op.call
                                    { callee := Callee.value (Operand.func 19),
                                      args := #[Operand.tmp 24, Operand.tmp 31],
                                      argTypes := #[29, 29] },
                                g := none },
                            kn := [24, 18, 23, 22, 21, 19, 20, 31, 25, 30, 29, 28, 26, 27] },
                          { o := { dst := some 33, op := Op.unOp UnOp.not 4 (Operand.tmp 32), g := none },
                            kn := [32, 24, 18, 23, 22, 21, 19, 20, 31, 25, 30, 29, 28, 26, 27] },
                          { o := { dst := some 34, op := Op.move (Operand.tmp 33), g := none },
                            kn := [33, 32, 24, 18, 23, 22, 21, 19, 20, 31, 25, 30, 29, 28, 26, 27] },
                          { o := { dst := some 35, op := Op.move (Operand.tmp 0), g := some (34, false) },
                            kn := [34, 33, 32, 24, 18, 23, 22, 21, 19, 20, 31, 25, 30, 29, 28, 26, 27] },
                          { o := { dst := some 36, op := Op.move (Operand.tmp 5), g := some (34, false) },
                            kn := [34, 33, 32, 24, 18, 23, 22, 21, 19, 20, 31, 25, 30, 29, 28, 26, 27] },
                          { o := { dst := some 37, op := Op.move (Operand.tmp 6), g := some (34, false) },
                            kn := [34, 33, 32, 24, 18, 23, 22, 21, 19, 20, 31, 25, 30, 29, 28, 26, 27] },
                          {
                            o :=
                              { dst := some 38, op := Op.indexAddr 22 (Operand.tmp 36) (Operand.tmp 37),
                                g := some (34, false) },
                            kn := [36, 37, 34, 33, 32, 24, 18, 23, 22, 21, 19, 20, 31, 25, 30, 29, 28, 26, 27] },
                          { o := { dst := some 39, op := Op.fieldAddr 32 (Operand.tmp 38) 1, g := some (34, false) },
                            kn := [38, 36, 37, 34, 33, 32, 24, 18, 23, 22, 21, 19, 20, 31, 25, 30, 29, 28, 26, 27] },
                          { o := { dst := some 40, op := Op.load 3 (Operand.tmp 39), g := some (34, false) },
                            kn := [39, 38, 36, 37, 34, 33, 32, 24, 18, 23, 22, 21, 19, 20, 31, 25, 30, 29, 28, 26, 27] },
                          {
                            o :=
                              { dst := some 41,
                                op :=
                                  Op.call
                                    { callee := Callee.value (Operand.func 30),
                                      args := #[Operand.tmp 35, Operand.tmp 40],
                                      argTypes := #[22, 3] },
                                g := some (34, false) },
                            kn :=
                              [35, 40, 39, 38, 36, 37, 34, 33, 32, 24, 18, 23, 22, 21, 19, 20, 31, 25, 30, 29, 28, 26,
                                27] },
                          { o := { dst := some 42, op := Op.move (Operand.tmp 1), g := some (34, false) },
                            kn := [34, 33, 32, 24, 18, 23, 22, 21, 19, 20, 31, 25, 30, 29, 28, 26, 27] },
                          { o := { dst := some 43, op := Op.move (Operand.tmp 5), g := some (34, false) },
                            kn := [34, 33, 32, 24, 18, 23, 22, 21, 19, 20, 31, 25, 30, 29, 28, 26, 27] },
                          { o := { dst := some 44, op := Op.move (Operand.tmp 6), g := some (34, false) },
                            kn := [34, 33, 32, 24, 18, 23, 22, 21, 19, 20, 31, 25, 30, 29, 28, 26, 27] },
                          {
                            o :=
                              { dst := some 45, op := Op.indexAddr 22 (Operand.tmp 43) (Operand.tmp 44),
                                g := some (34, false) },
                            kn := [43, 44, 34, 33, 32, 24, 18, 23, 22, 21, 19, 20, 31, 25, 30, 29, 28, 26, 27] },
                          { o := { dst := some 46, op := Op.fieldAddr 32 (Operand.tmp 45) 1, g := some (34, false) },
                            kn := [45, 43, 44, 34, 33, 32, 24, 18, 23, 22, 21, 19, 20, 31, 25, 30, 29, 28, 26, 27] },
                          { o := { dst := some 47, op := Op.load 3 (Operand.tmp 46), g := some (34, false) },
                            kn := [46, 45, 43, 44, 34, 33, 32, 24, 18, 23, 22, 21, 19, 20, 31, 25, 30, 29, 28, 26, 27] },
                          {
                            o :=
                              { dst := some 48,
                                op :=
                                  Op.call
                                    { callee := Callee.value (Operand.func 30),
                                      args := #[Operand.tmp 42, Operand.tmp 47],
                                      argTypes := #[22, 3] },
                                g := some (34, false) },
                            kn :=
                              [42, 47, 46, 45, 43, 44, 34, 33, 32, 24, 18, 23, 22, 21, 19, 20, 31, 25, 30, 29, 28, 26,
                                27] },
                          {
                            o :=
                              { dst := some 49,
                                op :=
                                  Op.call
                                    { callee := Callee.value (Operand.func 19),
                                      args := #[Operand.tmp 41, Operand.tmp 48],
                                      argTypes := #[29, 29] },
                                g := some (34, false) },
                            kn :=
                              [41, 35, 40, 39, 38, 36, 37, 48, 42, 47, 46, 45, 43, 44, 34, 33, 32, 24, 18, 23, 22, 21, 19,
                                20, 31, 25, 30, 29, 28, 26, 27] },
                          { o := { dst := some 50, op := Op.unOp UnOp.not 4 (Operand.tmp 49), g := some (34, false) },
                            kn :=
                              [49, 41, 35, 40, 39, 38, 36, 37, 48, 42, 47, 46, 45, 43, 44, 34, 33, 32, 24, 18, 23, 22, 21,
                                19, 20, 31, 25, 30, 29, 28, 26, 27] },
                          {
                            o :=
                              { dst := some 51,
                                op := Op.pick (Operand.tmp 34) (Operand.const (Value.bool true)) (Operand.tmp 50),
                                g := none },
                            kn :=
                              [50, 49, 41, 35, 40, 39, 38, 36, 37, 48, 42, 47, 46, 45, 43, 44, 34, 33, 32, 24, 18, 23, 22,
                                21, 19, 20, 31, 25, 30, 29, 28, 26, 27] }]
                        [] { lo := 18, hi := 51, xs := [] } { lo := 18, hi := 50, xs := [] } [])
                      (AC.cond (Operand.tmp 51)
                        (AC.seq
                          (AC.reg [{ dst := some 4, op := Op.assign (Operand.const (Value.bool false)), g := none }]
                            { lo := 1, hi := 0, xs := [] } [])
                          AC.ret)
                        AC.skip)))
                  (AC.reg
                    [{ dst := some 16, op := Op.move (Operand.tmp 6), g := none },
                      { dst := some 17,
                        op :=
                          Op.binOp BinOp.add 3 (Operand.tmp 16) (Operand.const (Value.int IntKind.i64 1)) 3,
                        g := none },
                      { dst := some 6, op := Op.assign (Operand.tmp 17), g := none }]
                    { lo := 16, hi := 17, xs := [] } []))))))
        (AC.seq
          (AC.reg [{ dst := some 4, op := Op.assign (Operand.const (Value.bool true)), g := none }]
            { lo := 1, hi := 0, xs := [] } [])
          AC.ret)))

theorem e15 : slim (Try.f15.body.getD .skip) = c15 := by kernel_rfl
theorem b15 : Try.f15.body = some (Try.f15.body.getD .skip) := by kernel_rfl
theorem d15 : textOk Try.prog 52 (Try.f15.body.getD .skip) = true := by kernel_rfl
theorem r15 : Try.f15.results.toList = [ResultVar.tmp 4] := by kernel_rfl
theorem n15 : Try.f15.name ≠ "runtime.NumGoroutine" := by decide
end Go.Av
