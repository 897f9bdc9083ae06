/- Part of a proof by symbolic walks on plain data. -/
import Derived.Test.YtpnpnldabhmojaaAvQ
import Derived.Test.YtpnpnldabhmojaaProg
set_option linter.unusedVariables false
set_option linter.unusedSimpArgs false
namespace Go.Av
open Go Go.RowKit Go.Proofs
def c4 : AC :=
  AC.seq
    (AC.reg [{ dst := some 4, op := Op.assign (Operand.const (Value.bool false)), g := none }]
      { lo := 1, hi := 0, xs := [] } [])
    (AC.seq
      (AC.seq
        (AC.reg
          [{ dst := some 8,
              op :=
                Op.call
                  { callee := Callee.value (Operand.func 11), args := #[], argTypes := #[] },
              g := none },
            { dst := some 9, op := Op.unOp UnOp.not 4 (Operand.tmp 8), g := none },
            { dst := some 10, op := Op.move (Operand.tmp 9), g := none },
            { dst := some 11, op := Op.move (Operand.tmp 0), g := some (10, false) },
            { dst := some 12,
              op :=
                Op.call
                  { callee := Callee.builtin Builtin.len, args := #[Operand.tmp 11],
                    argTypes := #[22] },
              g := some (10, false) },
            { dst := some 13,
              op := Op.binOp BinOp.lss 3 (Operand.tmp 12) (Operand.const (Value.int IntKind.i64 2)) 3,
              g := some (10, false) },
            { dst := some 14, op := Op.pick (Operand.tmp 10) (Operand.const (Value.bool true)) (Operand.tmp 13),
              g := none },
            { dst := some 15, op := Op.move (Operand.tmp 14), g := none },
            { dst := some 16, op := Op.move (Operand.tmp 0), g := some (15, false) },
            { dst := some 17,
              op :=
                Op.call
                  { callee := Callee.builtin Builtin.len, args := #[Operand.tmp 16],
                    argTypes := #[22] },
              g := some (15, false) },
            { dst := some 18,
              op := Op.binOp BinOp.gtr 3 (Operand.tmp 17) (Operand.const (Value.int IntKind.i64 20)) 3,
              g := some (15, false) },
            { dst := some 19, op := Op.pick (Operand.tmp 15) (Operand.const (Value.bool true)) (Operand.tmp 18),
              g := none },
            { dst := some 20, op := Op.move (Operand.tmp 19), g := none },
            { dst := some 21, op := Op.move (Operand.tmp 0), g := some (20, false) },
            { dst := some 22,
              op :=
                Op.call
                  { callee := Callee.value (Operand.func 22), args := #[Operand.tmp 21],
                    argTypes := #[22] },
              g := some (20, false) },
            { dst := some 23, op := Op.unOp UnOp.not 4 (Operand.tmp 22), g := some (20, false) },
            { dst := some 24, op := Op.pick (Operand.tmp 20) (Operand.const (Value.bool true)) (Operand.tmp 23),
              g := none }]
          { lo := 8, hi := 23, xs := [] } [])
        (AC.cond (Operand.tmp 24)
          (AC.seq
            (AC.reg
              [{ dst := some 25,
                  op :=
                    Op.call
                      { callee := Callee.value (Operand.func 11), args := #[],
                        argTypes := #[] },
                  g := none },
                { dst := some 4, op := Op.assign (Operand.tmp 25), g := none }]
              { lo := 25, hi := 25, xs := [] } [])
            AC.ret)
          AC.skip))
      (AC.seq
        (AC.reg
          [{ dst := some 26, op := Op.move (Operand.tmp 1), g := none },
            { dst := some 27, op := Op.convert 5 3 (Operand.tmp 26), g := none },
            { dst := some 28, op := Op.move (Operand.tmp 0), g := none },
            { dst := some 29,
              op :=
                Op.call
                  { callee := Callee.builtin Builtin.len, args := #[Operand.tmp 28],
                    argTypes := #[22] },
              g := none },
            { dst := some 30,
              op := Op.binOp BinOp.sub 3 (Operand.tmp 29) (Operand.const (Value.int IntKind.i64 1)) 3,
              g := none },
            { dst := some 31, op := Op.binOp BinOp.rem 3 (Operand.tmp 27) (Operand.tmp 30) 3, g := none },
            { dst := some 5, op := Op.assign (Operand.tmp 31), g := none }]
          { lo := 26, hi := 31, xs := [] } [])
        (AC.seq
          (AC.reg
            [{ dst := some 32, op := Op.buildSlice 22 0 #[], g := none },
              { dst := some 33, op := Op.move (Operand.tmp 0), g := none },
              { dst := some 34,
                op :=
                  Op.call
                    { callee := Callee.builtin Builtin.append, args := #[Operand.tmp 32, Operand.tmp 33],
                      argTypes := #[22, 22] },
                g := none },
              { dst := some 6, op := Op.assign (Operand.tmp 34), g := none }]
            { lo := 32, hi := 34, xs := [] } [])
          (AC.seq
            (AC.drw
              [{ o := { dst := some 35, op := Op.move (Operand.tmp 6), g := none }, kn := [] },
                { o := { dst := some 36, op := Op.move (Operand.tmp 5), g := none }, kn := [] },
                { o := { dst := some 37, op := Op.move (Operand.tmp 6), g := none }, kn := [] },
                { o := { dst := some 38, op := Op.move (Operand.tmp 5), g := none }, kn := [] },
                {
                  o :=
                    { dst := some 39,
                      op := Op.binOp BinOp.add 3 (Operand.tmp 38) (Operand.const (Value.int IntKind.i64 1)) 3,
                      g := none },
                  kn := [38] },
                { o := { dst := some 40, op := Op.move (Operand.tmp 0), g := none }, kn := [] },
                { o := { dst := some 41, op := Op.move (Operand.tmp 5), g := none }, kn := [] },
                {
                  o :=
                    { dst := some 42,
                      op := Op.binOp BinOp.add 3 (Operand.tmp 41) (Operand.const (Value.int IntKind.i64 1)) 3,
                      g := none },
                  kn := [41] },
                { o := { dst := some 43, op := Op.indexAddr 22 (Operand.tmp 40) (Operand.tmp 42), g := none },
                  kn := [40, 42, 41] },
                { o := { dst := some 44, op := Op.load 32 (Operand.tmp 43), g := none }, kn := [43, 40, 42, 41] },
                { o := { dst := some 45, op := Op.move (Operand.tmp 0), g := none }, kn := [] },
                { o := { dst := some 46, op := Op.move (Operand.tmp 5), g := none }, kn := [] },
                { o := { dst := some 47, op := Op.indexAddr 22 (Operand.tmp 45) (Operand.tmp 46), g := none },
                  kn := [45, 46] },
                { o := { dst := some 48, op := Op.load 32 (Operand.tmp 47), g := none }, kn := [47, 45, 46] },
                { o := { dst := some 49, op := Op.indexAddr 22 (Operand.tmp 35) (Operand.tmp 36), g := none },
                  kn := [35, 36] }]
              [{ o := { dst := none, op := Op.store 32 (Operand.tmp 49) (Operand.tmp 44), g := none },
                  kn := [49, 35, 36, 44, 43, 40, 42, 41],
                  un :=
                    [false, false, true, true, true, false, false, false, false, false, false, false, false, false,
                      false] },
                { o := { dst := some 50, op := Op.indexAddr 22 (Operand.tmp 37) (Operand.tmp 39), g := none },
                  kn := [37, 39, 38], un := [] },
                { o := { dst := none, op := Op.store 32 (Operand.tmp 50) (Operand.tmp 48), g := none },
                  kn := [48, 47, 45, 46], un := [] }]
              { lo := 35, hi := 49, xs := [] } { lo := 35, hi := 50, xs := [] } [])
            (AC.seq
              (AC.seq
                (AC.drw
                  [{ o := { dst := some 51, op := Op.move (Operand.tmp 0), g := none }, kn := [] },
                    { o := { dst := some 52, op := Op.move (Operand.tmp 5), g := none }, kn := [] },
                    { o := { dst := some 53, op := Op.indexAddr 22 (Operand.tmp 51) (Operand.tmp 52), g := none },
                      kn := [51, 52] },
                    { o := { dst := some 54, op := Op.load 32 (Operand.tmp 53), g := none }, kn := [53, 51, 52] },
                    { o := { dst := some 55, op := Op.move (Operand.tmp 0), g := none }, kn := [] },
                    { o := { dst := some 56, op := Op.move (Operand.tmp 5), g := none }, kn := [] },
                    {
                      o :=
                        { dst := some 57,
                          op :=
                            Op.binOp BinOp.add 3 (Operand.tmp 56) (Operand.const (Value.int IntKind.i64 1)) 3,
                          g := none },
                      kn := [56] },
                    { o := { dst := some 58, op := Op.indexAddr 22 (Operand.tmp 55) (Operand.tmp 57), g := none },
                      kn := [55, 57, 56] },
                    { o := { dst := some 59, op := Op.load 32 (Operand.tmp 58), g := none }, kn := [58, 55, 57, 56] },
                    {
                      o :=
                        { dst := some 60, op := Op.binOp BinOp.eql 32 (Operand.tmp 54) (Operand.tmp 59) 32, g := none },
                      kn := [54, 53, 51, 52, 59, 58, 55, 57, 56] }]
                  [] { lo := 51, hi := 60, xs := [] } { lo := 51, hi := 59, xs := [] } [])
                (AC.cond (Operand.tmp 60)
                  (AC.seq
                    (AC.reg
                      [{ dst := some 61, op := Op.move (Operand.tmp 0), g := none },
                        { dst := some 62, op := Op.move (Operand.tmp 6), g := none },
                        { dst := some 63,
                          op :=
                            Op.call
                              { callee := Callee.value (Operand.func 14),
                                args := #[Operand.tmp 61, Operand.tmp 62],
                                argTypes := #[22, 22] },
                          g := none },
                        { dst := some 4, op := Op.assign (Operand.tmp 63), g := none }]
                      { lo := 61, hi := 63, xs := [] } [])
                    AC.ret)
                  AC.skip))
              (AC.seq
                (AC.drw
                  [{ o := { dst := some 64, op := Op.move (Operand.tmp 0), g := none }, kn := [] },
                    { o := { dst := some 65, op := Op.move (Operand.tmp 5), g := none }, kn := [] },
                    { o := { dst := some 66, op := Op.indexAddr 22 (Operand.tmp 64) (Operand.tmp 65), g := none },
                      kn := [64, 65] },
                    { o := { dst := some 67, op := Op.load 32 (Operand.tmp 66), g := none }, kn := [66, 64, 65] },
                    { o := { dst := some 68, op := Op.move (Operand.tmp 0), g := none }, kn := [] },
                    { o := { dst := some 69, op := Op.move (Operand.tmp 5), g := none }, kn := [] },
                    {
                      o :=
                        { dst := some 70,
                          op :=
                            Op.binOp BinOp.add 3 (Operand.tmp 69) (Operand.const (Value.int IntKind.i64 1)) 3,
                          g := none },
                      kn := [69] },
                    { o := { dst := some 71, op := Op.indexAddr 22 (Operand.tmp 68) (Operand.tmp 70), g := none },
                      kn := [68, 70, 69] },
                    { o := { dst := some 72, op := Op.load 32 (Operand.tmp 71), g := none }, kn := [71, 68, 70, 69] },
                    {
                      o :=
                        { dst := some 73,
                          op :=
                            Op.call
                              { callee := Callee.value (Operand.func 20),
                                args := #[Operand.tmp 67, Operand.tmp 72],
                                argTypes := #[32, 32] },
                          g := none },
                      kn := [67, 66, 64, 65, 72, 71, 68, 70, 69] }]
                  [{ o := { dst := some 7, op := Op.assign (Operand.tmp 73), g := none },
                      kn := [73, 67, 66, 64, 65, 72, 71, 68, 70, 69], un := [] }]
                  { lo := 64, hi := 73, xs := [] } { lo := 64, hi := 73, xs := [] } [])
                (AC.seq
                  (AC.reg
                    [{ dst := some 74, op := Op.move (Operand.tmp 0), g := none },
                      { dst := some 75, op := Op.move (Operand.tmp 6), g := none },
                      { dst := some 76,
                        op :=
                          Op.call
                            { callee := Callee.value (Operand.func 14),
                              args := #[Operand.tmp 74, Operand.tmp 75],
                              argTypes := #[22, 22] },
                        g := none },
                      { dst := some 77, op := Op.move (Operand.tmp 7), g := none },
                      { dst := some 78, op := Op.binOp BinOp.eql 4 (Operand.tmp 76) (Operand.tmp 77) 4, g := none },
                      { dst := some 79, op := Op.move (Operand.tmp 78), g := none },
                      { dst := some 80, op := Op.move (Operand.tmp 0), g := some (79, true) },
                      { dst := some 81,
                        op :=
                          Op.call
                            { callee := Callee.value (Operand.func 17), args := #[Operand.tmp 80],
                              argTypes := #[22] },
                        g := some (79, true) },
                      { dst := some 82, op := Op.move (Operand.tmp 6), g := some (79, true) },
                      { dst := some 83,
                        op :=
                          Op.call
                            { callee := Callee.value (Operand.func 17), args := #[Operand.tmp 82],
                              argTypes := #[22] },
                        g := some (79, true) },
                      { dst := some 84,
                        op :=
                          Op.call
                            { callee := Callee.value (Operand.func 16),
                              args := #[Operand.tmp 81, Operand.tmp 83],
                              argTypes := #[22, 22] },
                        g := some (79, true) },
                      { dst := some 85, op := Op.move (Operand.tmp 7), g := some (79, true) },
                      { dst := some 86, op := Op.binOp BinOp.eql 4 (Operand.tmp 84) (Operand.tmp 85) 4,
                        g := some (79, true) },
                      { dst := some 87,
                        op := Op.pick (Operand.tmp 79) (Operand.tmp 86) (Operand.const (Value.bool false)), g := none },
                      { dst := some 4, op := Op.assign (Operand.tmp 87), g := none }]
                    { lo := 74, hi := 87, xs := [] } [])
                  AC.ret)))))))

theorem e4 : slim (Try.f4.body.getD .skip) = c4 := by kernel_rfl
theorem b4 : Try.f4.body = some (Try.f4.body.getD .skip) := by kernel_rfl
theorem d4 : textOk Try.prog 88 (Try.f4.body.getD .skip) = true := by kernel_rfl
theorem r4 : Try.f4.results.toList = [ResultVar.tmp 4] := by kernel_rfl
theorem n4 : Try.f4.name ≠ "runtime.NumGoroutine" := by decide
end Go.Av
