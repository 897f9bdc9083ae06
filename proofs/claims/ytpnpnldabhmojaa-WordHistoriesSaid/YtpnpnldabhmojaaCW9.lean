/- Part of a proof by symbolic walks on plain data. -/
import Derived.Test.YtpnpnldabhmojaaF8
import Derived.Test.YtpnpnldabhmojaaProg
set_option linter.unusedVariables false
set_option linter.unusedSimpArgs false
namespace Go.Av
open Go Go.RowKit Go.Proofs
def c18 : AC :=
  AC.seq
    (AC.reg [{ dst := some 2, op := Op.assign (Operand.const (Value.slice none 0 0)), g := none }]
      { lo := 1, hi := 0, xs := [] } [])
    (AC.seq
      (AC.reg
        [{ dst := some 9, op := Op.buildSlice 22 0 #[], g := none },
          { dst := some 10, op := Op.move (Operand.tmp 0), g := none },
          { dst := some 11,
            op :=
              Op.call
                { callee := Callee.builtin Builtin.append, args := #[Operand.tmp 9, Operand.tmp 10],
                  argTypes := #[22, 22] },
            g := none },
          { dst := some 3, op := Op.assign (Operand.tmp 11), g := none }]
        { lo := 9, hi := 11, xs := [] } [])
      (AC.seq
        (AC.reg [{ dst := some 4, op := Op.assign (Operand.const (Value.slice none 0 0)), g := none }]
          { lo := 1, hi := 0, xs := [] } [])
        (AC.seq
          (AC.block 0
            (AC.loop
              (AC.seq
                (AC.seq
                  (AC.reg
                    [{ dst := some 12, op := Op.move (Operand.tmp 3), g := none },
                      { dst := some 13,
                        op :=
                          Op.call
                            { callee := Callee.builtin Builtin.len, args := #[Operand.tmp 12],
                              argTypes := #[22] },
                        g := none },
                      { dst := some 14,
                        op :=
                          Op.binOp BinOp.gtr 3 (Operand.tmp 13) (Operand.const (Value.int IntKind.i64 0)) 3,
                        g := none }]
                    { lo := 12, hi := 13, xs := [] } [])
                  (AC.cond (Operand.tmp 14) AC.skip (AC.exit 0)))
                (AC.block 1
                  (AC.seq
                    (AC.reg
                      [{ dst := some 5, op := Op.assign (Operand.const (Value.int IntKind.i64 (-1))),
                          g := none }]
                      { lo := 1, hi := 0, xs := [] } [])
                    (AC.seq
                      (AC.seq
                        (AC.reg
                          [{ dst := some 6, op := Op.assign (Operand.const (Value.int IntKind.i64 0)),
                              g := none }]
                          { lo := 1, hi := 0, xs := [] } [])
                        (AC.block 2
                          (AC.loop
                            (AC.seq
                              (AC.seq
                                (AC.reg
                                  [{ dst := some 15, op := Op.move (Operand.tmp 6), g := none },
                                    { dst := some 16, op := Op.move (Operand.tmp 3), g := none },
                                    { dst := some 17,
                                      op :=
                                        Op.call
                                          { callee := Callee.builtin Builtin.len, args := #[Operand.tmp 16],
                                            argTypes := #[22] },
                                      g := none },
                                    { dst := some 18, op := Op.binOp BinOp.lss 3 (Operand.tmp 15) (Operand.tmp 17) 3,
                                      g := none }]
                                  { lo := 15, hi := 17, xs := [] } [])
                                (AC.cond (Operand.tmp 18) AC.skip (AC.exit 2)))
                              (AC.seq
                                (AC.block 3
                                  (AC.seq
                                    (AC.reg
                                      [{ dst := some 7, op := Op.assign (Operand.const (Value.bool true)), g := none }]
                                      { lo := 1, hi := 0, xs := [] } [])
                                    (AC.seq
                                      (AC.seq
                                        (AC.reg
                                          [{ dst := some 8,
                                              op := Op.assign (Operand.const (Value.int IntKind.i64 0)),
                                              g := none }]
                                          { lo := 1, hi := 0, xs := [] } [])
                                        (AC.block 4
                                          (AC.loop
                                            (AC.seq
                                              (AC.seq
                                                (AC.reg
                                                  [{ dst := some 21, op := Op.move (Operand.tmp 8), g := none },
                                                    { dst := some 22, op := Op.move (Operand.tmp 6), g := none },
                                                    { dst := some 23,
                                                      op := Op.binOp BinOp.lss 3 (Operand.tmp 21) (Operand.tmp 22) 3,
                                                      g := none }]
                                                  { lo := 21, hi := 22, xs := [] } [])
                                                (AC.cond (Operand.tmp 23) AC.skip (AC.exit 4)))
                                              (AC.seq
                                                (AC.block 5
                                                  (AC.drw
                                                    [{ o := { dst := some 26, op := Op.move (Operand.tmp 7), g := none },
                                                        kn := [] },
                                                      {
                                                        o :=
                                                          { dst := some 27, op := Op.move (Operand.tmp 26), g := none },
                                                        kn := [26] },
                                                      {
                                                        o :=
                                                          { dst := some 28, op := Op.move (Operand.tmp 3),
                                                            g := some (27, true) },
                                                        kn := [27, 26] },
                                                      {
                                                        o :=
                                                          { dst := some 29, op := Op.move (Operand.tmp 8),
                                                            g := some (27, true) },
                                                        kn := [27, 26] },
                                                      {
                                                        o :=
                                                          { dst := some 30,
                                                            op := Op.indexAddr 22 (Operand.tmp 28) (Operand.tmp 29),
                                                            g := some (27, true) },
                                                        kn := [28, 29, 27, 26] },
                                                      {
                                                        o :=
                                                          { dst := some 31, op := Op.load 32 (Operand.tmp 30),
                                                            g := some (27, true) },
                                                        kn := [30, 28, 29, 27, 26] },
                                                      {
                                                        o :=
                                                          { dst := some 32, op := Op.move (Operand.tmp 3),
                                                            g := some (27, true) },
                                                        kn := [27, 26] },
                                                      {
                                                        o :=
                                                          { dst := some 33, op := Op.move (Operand.tmp 6),
                                                            g := some (27, true) },
                                                        kn := [27, 26] },
                                                      {
                                                        o :=
                                                          { dst := some 34,
                                                            op := Op.indexAddr 22 (Operand.tmp 32) (Operand.tmp 33),
                                                            g := some (27, true) },
                                                        kn := [32, 33, 27, 26] },
                                                      {
                                                        o :=
                                                          { dst := some 35, op := Op.load 32 (Operand.tmp 34),
                                                            g := some (27, true) },
                                                        kn := [34, 32, 33, 27, 26] },
                                                      {
                                                        o :=
                                                          { dst := some 36,
                                                            op :=
                                                              Op.call
                                                                { callee := Callee.value (Operand.func 21),
                                                                  args := #[Operand.tmp 31, Operand.tmp 35],
                                                                  argTypes := #[32, 32] },
                                                            g := some (27, true) },
                                                        kn := [31, 30, 28, 29, 35, 34, 32, 33, 27, 26] },
                                                      {
                                                        o :=
                                                          { dst := some 37,
                                                            op :=
                                                              Op.pick (Operand.tmp 27) (Operand.tmp 36)
                                                                (Operand.const (Value.bool false)),
                                                            g := none },
                                                        kn := [36, 31, 30, 28, 29, 35, 34, 32, 33, 27, 26] }]
                                                    [{
                                                        o :=
                                                          { dst := some 7, op := Op.assign (Operand.tmp 37), g := none },
                                                        kn := [37, 36, 31, 30, 28, 29, 35, 34, 32, 33, 27, 26],
                                                        un := [] }]
                                                    { lo := 26, hi := 37, xs := [] } { lo := 26, hi := 37, xs := [] } []))
                                                (AC.reg
                                                  [{ dst := some 24, op := Op.move (Operand.tmp 8), g := none },
                                                    { dst := some 25,
                                                      op :=
                                                        Op.binOp BinOp.add 3 (Operand.tmp 24)
                                                          (Operand.const (Value.int IntKind.i64 1)) 3,
                                                      g := none },
                                                    { dst := some 8, op := Op.assign (Operand.tmp 25), g := none }]
                                                  { lo := 24, hi := 25, xs := [] } []))))))
                                      (AC.seq
                                        (AC.drw
                                          [{ o := { dst := some 38, op := Op.move (Operand.tmp 7), g := none },
                                              kn := [] },
                                            { o := { dst := some 39, op := Op.move (Operand.tmp 38), g := none },
                                              kn := [38] },
                                            {
                                              o :=
                                                { dst := some 40, op := Op.move (Operand.tmp 5), g := some (39, true) },
                                              kn := [39, 38] },
                                            {
                                              o :=
                                                { dst := some 41,
                                                  op :=
                                                    Op.binOp BinOp.lss 3 (Operand.tmp 40)
                                                      (Operand.const (Value.int IntKind.i64 0)) 3,
                                                  g := some (39, true) },
                                              kn := [40, 39, 38] },
                                            {
                                              o :=
                                                { dst := some 42, op := Op.move (Operand.tmp 41), g := some (39, true) },
                                              kn := [41, 40, 39, 38] },
                                            {
                                              o :=
                                                { dst := some 43, op := Op.move (Operand.tmp 3), g := some (42, false) },
                                              kn := [42, 41, 40, 39, 38] },
                                            {
                                              o :=
                                                { dst := some 44, op := Op.move (Operand.tmp 6), g := some (42, false) },
                                              kn := [42, 41, 40, 39, 38] },
                                            {
                                              o :=
                                                { dst := some 45, op := Op.indexAddr 22 (Operand.tmp 43) (Operand.tmp 44),
                                                  g := some (42, false) },
                                              kn := [43, 44, 42, 41, 40, 39, 38] },
                                            {
                                              o :=
                                                { dst := some 46, op := Op.load 32 (Operand.tmp 45),
                                                  g := some (42, false) },
                                              kn := [45, 43, 44, 42, 41, 40, 39, 38] },
                                            {
                                              o :=
                                                { dst := some 47, op := Op.move (Operand.tmp 3), g := some (42, false) },
                                              kn := [42, 41, 40, 39, 38] },
                                            {
                                              o :=
                                                { dst := some 48, op := Op.move (Operand.tmp 5), g := some (42, false) },
                                              kn := [42, 41, 40, 39, 38] },
                                            {
                                              o :=
                                                { dst := some 49, op := Op.indexAddr 22 (Operand.tmp 47) (Operand.tmp 48),
                                                  g := some (42, false) },
                                              kn := [47, 48, 42, 41, 40, 39, 38] },
                                            {
                                              o :=
                                                { dst := some 50, op := Op.load 32 (Operand.tmp 49),
                                                  g := some (42, false) },
                                              kn := [49, 47, 48, 42, 41, 40, 39, 38] },
                                            {
                                              o :=
                                                { dst := some 51,
                                                  op :=
                                                    Op.call
                                                      { callee := Callee.value (Operand.func 24),
                                                        args := #[Operand.tmp 46, Operand.tmp 50],
                                                        argTypes := #[32, 32] },
                                                  g := some (42, false) },
                                              kn := [46, 45, 43, 44, 50, 49, 47, 48, 42, 41, 40, 39, 38] },
                                            {
                                              o :=
                                                { dst := some 52,
                                                  op :=
                                                    Op.pick (Operand.tmp 42) (Operand.const (Value.bool true))
                                                      (Operand.tmp 51),
                                                  g := some (39, true) },
                                              kn := [51, 46, 45, 43, 44, 50, 49, 47, 48, 42, 41, 40, 39, 38] },
                                            {
                                              o :=
                                                { dst := some 53,
                                                  op :=
                                                    Op.pick (Operand.tmp 39) (Operand.tmp 52)
                                                      (Operand.const (Value.bool false)),
                                                  g := none },
                                              kn := [52, 51, 46, 45, 43, 44, 50, 49, 47, 48, 42, 41, 40, 39, 38] }]
                                          [] { lo := 38, hi := 53, xs := [] } { lo := 38, hi := 52, xs := [] } [])
                                        (AC.cond (Operand.tmp 53)
                                          (AC.reg
                                            [{ dst := some 54, op := Op.move (Operand.tmp 6), g := none },
                                              { dst := some 5, op := Op.assign (Operand.tmp 54), g := none }]
                                            { lo := 54, hi := 54, xs := [] } [])
                                          AC.skip)))))
                                (AC.reg
                                  [{ dst := some 19, op := Op.move (Operand.tmp 6), g := none },
                                    { dst := some 20,
                                      op :=
                                        Op.binOp BinOp.add 3 (Operand.tmp 19)
                                          (Operand.const (Value.int IntKind.i64 1)) 3,
                                      g := none },
                                    { dst := some 6, op := Op.assign (Operand.tmp 20), g := none }]
                                  { lo := 19, hi := 20, xs := [] } []))))))
                      (AC.seq
                        (AC.reg
                          [{ dst := some 55, op := Op.move (Operand.tmp 4), g := none },
                            { dst := some 56, op := Op.move (Operand.tmp 3), g := none },
                            { dst := some 57, op := Op.move (Operand.tmp 5), g := none },
                            { dst := some 58, op := Op.indexAddr 22 (Operand.tmp 56) (Operand.tmp 57), g := none },
                            { dst := some 59, op := Op.load 32 (Operand.tmp 58), g := none },
                            { dst := some 60, op := Op.buildSlice 22 1 #[(0, Operand.tmp 59)], g := none },
                            { dst := some 61,
                              op :=
                                Op.call
                                  { callee := Callee.builtin Builtin.append,
                                    args := #[Operand.tmp 55, Operand.tmp 60],
                                    argTypes := #[22, 22] },
                              g := none },
                            { dst := some 4, op := Op.assign (Operand.tmp 61), g := none }]
                          { lo := 55, hi := 61, xs := [] } [])
                        (AC.drw
                          [{ o := { dst := some 62, op := Op.buildSlice 22 0 #[], g := none }, kn := [] },
                            { o := { dst := some 63, op := Op.move (Operand.tmp 3), g := none }, kn := [] },
                            { o := { dst := some 64, op := Op.move (Operand.tmp 5), g := none }, kn := [] },
                            {
                              o :=
                                { dst := some 65, op := Op.slice 22 (Operand.tmp 63) none (some (Operand.tmp 64)) none,
                                  g := none },
                              kn := [63, 64] },
                            {
                              o :=
                                { dst := some 66,
                                  op :=
                                    Op.call
                                      { callee := Callee.builtin Builtin.append,
                                        args := #[Operand.tmp 62, Operand.tmp 65],
                                        argTypes := #[22, 22] },
                                  g := none },
                              kn := [65, 63, 64] },
                            { o := { dst := some 67, op := Op.move (Operand.tmp 3), g := none }, kn := [] },
                            { o := { dst := some 68, op := Op.move (Operand.tmp 5), g := none }, kn := [] },
                            {
                              o :=
                                { dst := some 69,
                                  op :=
                                    Op.binOp BinOp.add 3 (Operand.tmp 68)
                                      (Operand.const (Value.int IntKind.i64 1)) 3,
                                  g := none },
                              kn := [68] },
                            {
                              o :=
                                { dst := some 70, op := Op.slice 22 (Operand.tmp 67) (some (Operand.tmp 69)) none none,
                                  g := none },
                              kn := [67, 69, 68] },
                            {
                              o :=
                                { dst := some 71,
                                  op :=
                                    Op.call
                                      { callee := Callee.builtin Builtin.append,
                                        args := #[Operand.tmp 66, Operand.tmp 70],
                                        argTypes := #[22, 22] },
                                  g := none },
                              kn := [65, 63, 64, 70, 67, 69, 68] }]
                          [{ o := { dst := some 3, op := Op.assign (Operand.tmp 71), g := none },
                              kn := [71, 65, 63, 64, 70, 67, 69, 68], un := [] }]
                          { lo := 62, hi := 71, xs := [] } { lo := 62, hi := 71, xs := [] } []))))))))
          (AC.seq
            (AC.reg
              [{ dst := some 72, op := Op.move (Operand.tmp 4), g := none },
                { dst := some 2, op := Op.assign (Operand.tmp 72), g := none }]
              { lo := 72, hi := 72, xs := [] } [])
            AC.ret))))

theorem e18 : slim (Try.f18.body.getD .skip) = c18 := by kernel_rfl
theorem b18 : Try.f18.body = some (Try.f18.body.getD .skip) := by kernel_rfl
theorem d18 : textOk Try.prog 73 (Try.f18.body.getD .skip) = true := by kernel_rfl
theorem r18 : Try.f18.results.toList = [ResultVar.tmp 2] := by kernel_rfl
theorem n18 : Try.f18.name ≠ "runtime.NumGoroutine" := by decide
end Go.Av
