/- Part of a proof by symbolic walks on plain data. -/
import Derived.Test.YtpnpnldabhmojaaF8
import Derived.Test.YtpnpnldabhmojaaProg
set_option linter.unusedVariables false
set_option linter.unusedSimpArgs false
namespace Go.Av
open Go Go.RowKit Go.Proofs
def c10 : AC :=
  AC.seq
    (AC.reg
      [{ dst := some 3, op := Op.box 46 (Operand.tmp 1), g := none },
        { dst := some 4, op := Op.assign (Operand.const (Value.bool false)), g := none }]
      { lo := 1, hi := 0, xs := [] } [])
    (AC.seq
      (AC.seq
        (AC.reg
          [{ dst := some 19,
              op :=
                Op.call
                  { callee := Callee.value (Operand.func 11), args := #[], argTypes := #[] },
              g := none },
            { dst := some 20, op := Op.unOp UnOp.not 4 (Operand.tmp 19), g := none },
            { dst := some 21, op := Op.move (Operand.tmp 20), g := none },
            { dst := some 22, op := Op.move (Operand.tmp 0), g := some (21, false) },
            { dst := some 23,
              op :=
                Op.call
                  { callee := Callee.builtin Builtin.len, args := #[Operand.tmp 22],
                    argTypes := #[22] },
              g := some (21, false) },
            { dst := some 24,
              op := Op.binOp BinOp.gtr 3 (Operand.tmp 23) (Operand.const (Value.int IntKind.i64 20)) 3,
              g := some (21, false) },
            { dst := some 25, op := Op.pick (Operand.tmp 21) (Operand.const (Value.bool true)) (Operand.tmp 24),
              g := none },
            { dst := some 26, op := Op.move (Operand.tmp 25), g := none },
            { dst := some 27, op := Op.move (Operand.tmp 0), g := some (26, false) },
            { dst := some 28,
              op :=
                Op.call
                  { callee := Callee.value (Operand.func 22), args := #[Operand.tmp 27],
                    argTypes := #[22] },
              g := some (26, false) },
            { dst := some 29, op := Op.unOp UnOp.not 4 (Operand.tmp 28), g := some (26, false) },
            { dst := some 30, op := Op.pick (Operand.tmp 26) (Operand.const (Value.bool true)) (Operand.tmp 29),
              g := none }]
          { lo := 19, hi := 29, xs := [] } [])
        (AC.cond (Operand.tmp 30)
          (AC.seq
            (AC.reg
              [{ dst := some 31,
                  op :=
                    Op.call
                      { callee := Callee.value (Operand.func 11), args := #[],
                        argTypes := #[] },
                  g := none },
                { dst := some 4, op := Op.assign (Operand.tmp 31), g := none }]
              { lo := 31, hi := 31, xs := [] } [])
            AC.ret)
          AC.skip))
      (AC.seq
        (AC.reg
          [{ dst := some 32, op := Op.move (Operand.tmp 0), g := none },
            { dst := some 33,
              op :=
                Op.call
                  { callee := Callee.value (Operand.func 12),
                    args := #[Operand.tmp 32, Operand.const (Value.int IntKind.i64 6)],
                    argTypes := #[22, 3] },
              g := none },
            { dst := some 5, op := Op.assign (Operand.tmp 33), g := none }]
          { lo := 32, hi := 33, xs := [] } [])
        (AC.seq
          (AC.seq
            (AC.reg
              [{ dst := some 34, op := Op.move (Operand.tmp 5), g := none },
                { dst := some 35,
                  op :=
                    Op.call
                      { callee := Callee.builtin Builtin.len, args := #[Operand.tmp 34],
                        argTypes := #[24] },
                  g := none },
                { dst := some 36,
                  op := Op.binOp BinOp.neq 3 (Operand.tmp 35) (Operand.const (Value.int IntKind.i64 6)) 3,
                  g := none }]
              { lo := 34, hi := 35, xs := [] } [])
            (AC.cond (Operand.tmp 36)
              (AC.seq
                (AC.reg [{ dst := some 4, op := Op.assign (Operand.const (Value.bool false)), g := none }]
                  { lo := 1, hi := 0, xs := [] } [])
                AC.ret)
              AC.skip))
          (AC.seq
            (AC.seq
              (AC.reg
                [{ dst := some 37, op := Op.move (Operand.tmp 5), g := none },
                  { dst := some 38,
                    op :=
                      Op.call
                        { callee := Callee.builtin Builtin.len, args := #[Operand.tmp 37],
                          argTypes := #[24] },
                    g := none },
                  { dst := some 39, op := Op.move (Operand.const (Value.int IntKind.i64 0)), g := none }]
                { lo := 37, hi := 37, xs := [] } [])
              (AC.block 0
                (AC.loop
                  (AC.seq
                    (AC.reg
                      [{ dst := some 40, op := Op.binOp BinOp.lss 3 (Operand.tmp 39) (Operand.tmp 38) 3, g := none }]
                      { lo := 1, hi := 0, xs := [] } [])
                    (AC.seq (AC.cond (Operand.tmp 40) AC.skip (AC.exit 0))
                      (AC.seq
                        (AC.block 1
                          (AC.seq
                            (AC.reg
                              [{ dst := some 41, op := Op.move (Operand.tmp 39), g := none },
                                { dst := some 6, op := Op.assign (Operand.tmp 41), g := none }]
                              { lo := 41, hi := 41, xs := [] } [])
                            (AC.drw
                              [{ o := { dst := some 42, op := Op.move (Operand.tmp 5), g := none }, kn := [] },
                                { o := { dst := some 43, op := Op.move (Operand.tmp 6), g := none }, kn := [] },
                                { o := { dst := some 44, op := Op.move (Operand.tmp 5), g := none }, kn := [] },
                                { o := { dst := some 45, op := Op.move (Operand.tmp 6), g := none }, kn := [] },
                                {
                                  o :=
                                    { dst := some 46, op := Op.indexAddr 24 (Operand.tmp 44) (Operand.tmp 45),
                                      g := none },
                                  kn := [44, 45] },
                                { o := { dst := some 47, op := Op.load 29 (Operand.tmp 46), g := none },
                                  kn := [46, 44, 45] },
                                { o := { dst := some 48, op := Op.move (Operand.tmp 6), g := none }, kn := [] },
                                {
                                  o :=
                                    { dst := some 49, op := Op.indexAddr 46 (Operand.tmp 3) (Operand.tmp 48), g := none },
                                  kn := [48] },
                                { o := { dst := some 50, op := Op.load 5 (Operand.tmp 49), g := none }, kn := [49, 48] },
                                { o := { dst := some 51, op := Op.convert 5 3 (Operand.tmp 50), g := none },
                                  kn := [50, 49, 48] },
                                { o := { dst := some 52, op := Op.move (Operand.tmp 5), g := none }, kn := [] },
                                { o := { dst := some 53, op := Op.move (Operand.tmp 6), g := none }, kn := [] },
                                {
                                  o :=
                                    { dst := some 54, op := Op.indexAddr 24 (Operand.tmp 52) (Operand.tmp 53),
                                      g := none },
                                  kn := [52, 53] },
                                { o := { dst := some 55, op := Op.load 29 (Operand.tmp 54), g := none },
                                  kn := [54, 52, 53] },
                                {
                                  o :=
                                    { dst := some 56,
                                      op :=
                                        Op.call
                                          { callee := Callee.builtin Builtin.len, args := #[Operand.tmp 55],
                                            argTypes := #[29] },
                                      g := none },
                                  kn := [55, 54, 52, 53] },
                                {
                                  o :=
                                    { dst := some 57,
                                      op :=
                                        Op.binOp BinOp.add 3 (Operand.tmp 56)
                                          (Operand.const (Value.int IntKind.i64 1)) 3,
                                      g := none },
                                  kn := [56, 55, 54, 52, 53] },
                                {
                                  o :=
                                    { dst := some 58, op := Op.binOp BinOp.rem 3 (Operand.tmp 51) (Operand.tmp 57) 3,
                                      g := none },
                                  kn := [51, 50, 49, 48, 57, 56, 55, 54, 52, 53] },
                                {
                                  o :=
                                    { dst := some 59,
                                      op := Op.slice 29 (Operand.tmp 47) none (some (Operand.tmp 58)) none, g := none },
                                  kn := [47, 46, 44, 45, 58, 51, 50, 49, 48, 57, 56, 55, 54, 52, 53] },
                                {
                                  o :=
                                    { dst := some 60, op := Op.indexAddr 24 (Operand.tmp 42) (Operand.tmp 43),
                                      g := none },
                                  kn := [42, 43] }]
                              [{ o := { dst := none, op := Op.store 29 (Operand.tmp 60) (Operand.tmp 59), g := none },
                                  kn := [60, 42, 43, 59, 47, 46, 44, 45, 58, 51, 50, 49, 48, 57, 56, 55, 54, 52, 53],
                                  un := [] }]
                              { lo := 42, hi := 60, xs := [] } { lo := 42, hi := 60, xs := [] } [])))
                        (AC.reg
                          [{ dst := some 61,
                              op :=
                                Op.binOp BinOp.add 3 (Operand.tmp 39)
                                  (Operand.const (Value.int IntKind.i64 1)) 3,
                              g := none },
                            { dst := some 39, op := Op.move (Operand.tmp 61), g := none }]
                          { lo := 61, hi := 61, xs := [] } [])))))))
            (AC.seq
              (AC.reg [{ dst := some 7, op := Op.assign (Operand.const (Value.bool true)), g := none }]
                { lo := 1, hi := 0, xs := [] } [])
              (AC.seq
                (AC.reg
                  [{ dst := some 8, op := Op.assign (Operand.const (Value.int IntKind.i64 0)), g := none }]
                  { lo := 1, hi := 0, xs := [] } [])
                (AC.seq
                  (AC.seq
                    (AC.reg
                      [{ dst := some 62, op := Op.move (Operand.tmp 5), g := none },
                        { dst := some 63,
                          op :=
                            Op.call
                              { callee := Callee.builtin Builtin.len, args := #[Operand.tmp 62],
                                argTypes := #[24] },
                          g := none },
                        { dst := some 64, op := Op.move (Operand.const (Value.int IntKind.i64 0)),
                          g := none }]
                      { lo := 62, hi := 62, xs := [] } [])
                    (AC.block 2
                      (AC.loop
                        (AC.seq
                          (AC.reg
                            [{ dst := some 65, op := Op.binOp BinOp.lss 3 (Operand.tmp 64) (Operand.tmp 63) 3,
                                g := none }]
                            { lo := 1, hi := 0, xs := [] } [])
                          (AC.seq (AC.cond (Operand.tmp 65) AC.skip (AC.exit 2))
                            (AC.seq
                              (AC.block 3
                                (AC.seq
                                  (AC.reg
                                    [{ dst := some 66, op := Op.move (Operand.tmp 64), g := none },
                                      { dst := some 9, op := Op.assign (Operand.tmp 66), g := none }]
                                    { lo := 66, hi := 66, xs := [] } [])
                                  (AC.seq
                                    (AC.reg
                                      [{ dst := some 67, op := Op.move (Operand.tmp 5), g := none },
                                        { dst := some 68,
                                          op :=
                                            Op.call
                                              { callee := Callee.builtin Builtin.len,
                                                args := #[Operand.tmp 67], argTypes := #[24] },
                                          g := none },
                                        { dst := some 69,
                                          op := Op.move (Operand.const (Value.int IntKind.i64 0)),
                                          g := none }]
                                      { lo := 67, hi := 67, xs := [] } [])
                                    (AC.block 4
                                      (AC.loop
                                        (AC.seq
                                          (AC.reg
                                            [{ dst := some 70,
                                                op := Op.binOp BinOp.lss 3 (Operand.tmp 69) (Operand.tmp 68) 3,
                                                g := none }]
                                            { lo := 1, hi := 0, xs := [] } [])
                                          (AC.seq (AC.cond (Operand.tmp 70) AC.skip (AC.exit 4))
                                            (AC.seq
                                              (AC.block 5
                                                (AC.seq
                                                  (AC.reg
                                                    [{ dst := some 71, op := Op.move (Operand.tmp 69), g := none },
                                                      { dst := some 10, op := Op.assign (Operand.tmp 71), g := none }]
                                                    { lo := 71, hi := 71, xs := [] } [])
                                                  (AC.seq
                                                    (AC.reg
                                                      [{ dst := some 11,
                                                          op :=
                                                            Op.assign
                                                              (Operand.const (Value.int IntKind.i64 0)),
                                                          g := none },
                                                        { dst := some 12,
                                                          op :=
                                                            Op.assign
                                                              (Operand.const (Value.int IntKind.i64 0)),
                                                          g := none }]
                                                      { lo := 1, hi := 0, xs := [] } [])
                                                    (AC.seq
                                                      (AC.seq
                                                        (AC.reg
                                                          [{ dst := some 72, op := Op.move (Operand.tmp 5), g := none },
                                                            { dst := some 73, op := Op.move (Operand.tmp 9), g := none },
                                                            { dst := some 74,
                                                              op := Op.indexAddr 24 (Operand.tmp 72) (Operand.tmp 73),
                                                              g := none },
                                                            { dst := some 75, op := Op.load 29 (Operand.tmp 74),
                                                              g := none },
                                                            { dst := some 76,
                                                              op :=
                                                                Op.call
                                                                  { callee := Callee.builtin Builtin.len,
                                                                    args := #[Operand.tmp 75],
                                                                    argTypes := #[29] },
                                                              g := none },
                                                            { dst := some 77,
                                                              op :=
                                                                Op.move
                                                                  (Operand.const (Value.int IntKind.i64 0)),
                                                              g := none }]
                                                          { lo := 72, hi := 74, xs := [] } [])
                                                        (AC.block 6
                                                          (AC.loop
                                                            (AC.seq
                                                              (AC.reg
                                                                [{ dst := some 78,
                                                                    op :=
                                                                      Op.binOp BinOp.lss 3 (Operand.tmp 77)
                                                                        (Operand.tmp 76) 3,
                                                                    g := none }]
                                                                { lo := 1, hi := 0, xs := [] } [])
                                                              (AC.seq (AC.cond (Operand.tmp 78) AC.skip (AC.exit 6))
                                                                (AC.seq
                                                                  (AC.block 7
                                                                    (AC.seq
                                                                      (AC.reg
                                                                        [{ dst := some 79,
                                                                            op :=
                                                                              Op.indexAddr 29 (Operand.tmp 75)
                                                                                (Operand.tmp 77),
                                                                            g := none },
                                                                          { dst := some 80,
                                                                            op := Op.load 44 (Operand.tmp 79),
                                                                            g := none },
                                                                          { dst := some 14, op := Op.alloc 44,
                                                                            g := none },
                                                                          { dst := none,
                                                                            op :=
                                                                              Op.store 44 (Operand.tmp 14)
                                                                                (Operand.tmp 80),
                                                                            g := none }]
                                                                        { lo := 79, hi := 80, xs := [] } [])
                                                                      (AC.seq
                                                                        (AC.reg
                                                                          [{ dst := some 81,
                                                                              op := Op.fieldAddr 44 (Operand.tmp 14) 1,
                                                                              g := none },
                                                                            { dst := some 82,
                                                                              op := Op.load 4 (Operand.tmp 81),
                                                                              g := none },
                                                                            { dst := some 83,
                                                                              op := Op.unOp UnOp.not 4 (Operand.tmp 82),
                                                                              g := none },
                                                                            { dst := some 84,
                                                                              op := Op.move (Operand.tmp 83), g := none },
                                                                            { dst := some 85,
                                                                              op := Op.fieldAddr 44 (Operand.tmp 14) 2,
                                                                              g := some (84, true) },
                                                                            { dst := some 86,
                                                                              op := Op.load 3 (Operand.tmp 85),
                                                                              g := some (84, true) },
                                                                            { dst := some 87,
                                                                              op := Op.move (Operand.tmp 10),
                                                                              g := some (84, true) },
                                                                            { dst := some 88,
                                                                              op :=
                                                                                Op.binOp BinOp.eql 3 (Operand.tmp 86)
                                                                                  (Operand.tmp 87) 3,
                                                                              g := some (84, true) },
                                                                            { dst := some 89,
                                                                              op :=
                                                                                Op.pick (Operand.tmp 84) (Operand.tmp 88)
                                                                                  (Operand.const (Value.bool false)),
                                                                              g := none }]
                                                                          { lo := 81, hi := 88, xs := [] } [])
                                                                        (AC.cond (Operand.tmp 89)
                                                                          (AC.reg
                                                                            [{ dst := some 90,
                                                                                op := Op.move (Operand.tmp 11),
                                                                                g := none },
                                                                              { dst := some 91,
                                                                                op :=
                                                                                  Op.binOp BinOp.add 3 (Operand.tmp 90)
                                                                                    (Operand.const
                                                                                      (Value.int IntKind.i64
                                                                                        1))
                                                                                    3,
                                                                                g := none },
                                                                              { dst := some 11,
                                                                                op := Op.assign (Operand.tmp 91),
                                                                                g := none }]
                                                                            { lo := 90, hi := 91, xs := [] } [])
                                                                          AC.skip))))
                                                                  (AC.reg
                                                                    [{ dst := some 92,
                                                                        op :=
                                                                          Op.binOp BinOp.add 3 (Operand.tmp 77)
                                                                            (Operand.const
                                                                              (Value.int IntKind.i64 1))
                                                                            3,
                                                                        g := none },
                                                                      { dst := some 77, op := Op.move (Operand.tmp 92),
                                                                        g := none }]
                                                                    { lo := 92, hi := 92, xs := [] } [])))))))
                                                      (AC.seq
                                                        (AC.seq
                                                          (AC.reg
                                                            [{ dst := some 93, op := Op.move (Operand.tmp 5), g := none },
                                                              { dst := some 94, op := Op.move (Operand.tmp 10),
                                                                g := none },
                                                              { dst := some 95,
                                                                op := Op.indexAddr 24 (Operand.tmp 93) (Operand.tmp 94),
                                                                g := none },
                                                              { dst := some 96, op := Op.load 29 (Operand.tmp 95),
                                                                g := none },
                                                              { dst := some 97,
                                                                op :=
                                                                  Op.call
                                                                    { callee := Callee.builtin Builtin.len,
                                                                      args := #[Operand.tmp 96],
                                                                      argTypes := #[29] },
                                                                g := none },
                                                              { dst := some 98,
                                                                op :=
                                                                  Op.move
                                                                    (Operand.const (Value.int IntKind.i64 0)),
                                                                g := none }]
                                                            { lo := 93, hi := 95, xs := [] } [])
                                                          (AC.block 8
                                                            (AC.loop
                                                              (AC.seq
                                                                (AC.reg
                                                                  [{ dst := some 99,
                                                                      op :=
                                                                        Op.binOp BinOp.lss 3 (Operand.tmp 98)
                                                                          (Operand.tmp 97) 3,
                                                                      g := none }]
                                                                  { lo := 1, hi := 0, xs := [] } [])
                                                                (AC.seq (AC.cond (Operand.tmp 99) AC.skip (AC.exit 8))
                                                                  (AC.seq
                                                                    (AC.block 9
                                                                      (AC.seq
                                                                        (AC.reg
                                                                          [{ dst := some 100,
                                                                              op :=
                                                                                Op.indexAddr 29 (Operand.tmp 96)
                                                                                  (Operand.tmp 98),
                                                                              g := none },
                                                                            { dst := some 101,
                                                                              op := Op.load 44 (Operand.tmp 100),
                                                                              g := none },
                                                                            { dst := some 16, op := Op.alloc 44,
                                                                              g := none },
                                                                            { dst := none,
                                                                              op :=
                                                                                Op.store 44 (Operand.tmp 16)
                                                                                  (Operand.tmp 101),
                                                                              g := none }]
                                                                          { lo := 100, hi := 101, xs := [] } [])
                                                                        (AC.seq
                                                                          (AC.reg
                                                                            [{ dst := some 102,
                                                                                op := Op.fieldAddr 44 (Operand.tmp 16) 1,
                                                                                g := none },
                                                                              { dst := some 103,
                                                                                op := Op.load 4 (Operand.tmp 102),
                                                                                g := none },
                                                                              { dst := some 104,
                                                                                op := Op.move (Operand.tmp 103),
                                                                                g := none },
                                                                              { dst := some 105,
                                                                                op := Op.fieldAddr 44 (Operand.tmp 16) 2,
                                                                                g := some (104, true) },
                                                                              { dst := some 106,
                                                                                op := Op.load 3 (Operand.tmp 105),
                                                                                g := some (104, true) },
                                                                              { dst := some 107,
                                                                                op := Op.move (Operand.tmp 9),
                                                                                g := some (104, true) },
                                                                              { dst := some 108,
                                                                                op :=
                                                                                  Op.binOp BinOp.eql 3 (Operand.tmp 106)
                                                                                    (Operand.tmp 107) 3,
                                                                                g := some (104, true) },
                                                                              { dst := some 109,
                                                                                op :=
                                                                                  Op.pick (Operand.tmp 104)
                                                                                    (Operand.tmp 108)
                                                                                    (Operand.const (Value.bool false)),
                                                                                g := none }]
                                                                            { lo := 102, hi := 108, xs := [] } [])
                                                                          (AC.cond (Operand.tmp 109)
                                                                            (AC.reg
                                                                              [{ dst := some 110,
                                                                                  op := Op.move (Operand.tmp 12),
                                                                                  g := none },
                                                                                { dst := some 111,
                                                                                  op :=
                                                                                    Op.binOp BinOp.add 3 (Operand.tmp 110)
                                                                                      (Operand.const
                                                                                        (Value.int IntKind.i64
                                                                                          1))
                                                                                      3,
                                                                                  g := none },
                                                                                { dst := some 12,
                                                                                  op := Op.assign (Operand.tmp 111),
                                                                                  g := none }]
                                                                              { lo := 110, hi := 111, xs := [] } [])
                                                                            AC.skip))))
                                                                    (AC.reg
                                                                      [{ dst := some 112,
                                                                          op :=
                                                                            Op.binOp BinOp.add 3 (Operand.tmp 98)
                                                                              (Operand.const
                                                                                (Value.int IntKind.i64 1))
                                                                              3,
                                                                          g := none },
                                                                        { dst := some 98, op := Op.move (Operand.tmp 112),
                                                                          g := none }]
                                                                      { lo := 112, hi := 112, xs := [] } [])))))))
                                                        (AC.reg
                                                          [{ dst := some 113, op := Op.move (Operand.tmp 7), g := none },
                                                            { dst := some 114, op := Op.move (Operand.tmp 113),
                                                              g := none },
                                                            { dst := some 115, op := Op.move (Operand.tmp 11),
                                                              g := some (114, true) },
                                                            { dst := some 116, op := Op.move (Operand.tmp 12),
                                                              g := some (114, true) },
                                                            { dst := some 117,
                                                              op :=
                                                                Op.binOp BinOp.leq 3 (Operand.tmp 115) (Operand.tmp 116)
                                                                  3,
                                                              g := some (114, true) },
                                                            { dst := some 118,
                                                              op :=
                                                                Op.pick (Operand.tmp 114) (Operand.tmp 117)
                                                                  (Operand.const (Value.bool false)),
                                                              g := none },
                                                            { dst := some 119, op := Op.move (Operand.tmp 8), g := none },
                                                            { dst := some 120, op := Op.move (Operand.tmp 11),
                                                              g := none },
                                                            { dst := some 121,
                                                              op :=
                                                                Op.binOp BinOp.add 3 (Operand.tmp 119) (Operand.tmp 120)
                                                                  3,
                                                              g := none },
                                                            { dst := some 7, op := Op.assign (Operand.tmp 118),
                                                              g := none },
                                                            { dst := some 8, op := Op.assign (Operand.tmp 121),
                                                              g := none }]
                                                          { lo := 113, hi := 121, xs := [] } []))))))
                                              (AC.reg
                                                [{ dst := some 122,
                                                    op :=
                                                      Op.binOp BinOp.add 3 (Operand.tmp 69)
                                                        (Operand.const (Value.int IntKind.i64 1)) 3,
                                                    g := none },
                                                  { dst := some 69, op := Op.move (Operand.tmp 122), g := none }]
                                                { lo := 122, hi := 122, xs := [] } [])))))))))
                              (AC.reg
                                [{ dst := some 123,
                                    op :=
                                      Op.binOp BinOp.add 3 (Operand.tmp 64)
                                        (Operand.const (Value.int IntKind.i64 1)) 3,
                                    g := none },
                                  { dst := some 64, op := Op.move (Operand.tmp 123), g := none }]
                                { lo := 123, hi := 123, xs := [] } [])))))))
                  (AC.seq
                    (AC.reg
                      [{ dst := some 125, op := Op.move (Operand.tmp 5), g := none },
                        { dst := some 126,
                          op :=
                            Op.call
                              { callee := Callee.value (Operand.func 28), args := #[Operand.tmp 125],
                                argTypes := #[24] },
                          g := none },
                        { dst := some 124, op := Op.move (Operand.tmp 126), g := none },
                        { dst := some 127, op := Op.extract (Operand.tmp 124) 0, g := none },
                        { dst := some 128, op := Op.extract (Operand.tmp 124) 1, g := none },
                        { dst := some 17, op := Op.assign (Operand.tmp 127), g := none },
                        { dst := some 18, op := Op.assign (Operand.tmp 128), g := none }]
                      { lo := 124, hi := 128, xs := [] } [])
                    (AC.seq
                      (AC.reg
                        [{ dst := some 129, op := Op.move (Operand.tmp 18), g := none },
                          { dst := some 130, op := Op.move (Operand.tmp 7), g := none },
                          { dst := some 131, op := Op.binOp BinOp.eql 4 (Operand.tmp 129) (Operand.tmp 130) 4,
                            g := none },
                          { dst := some 132, op := Op.move (Operand.tmp 131), g := none },
                          { dst := some 133, op := Op.move (Operand.tmp 18), g := some (132, true) },
                          { dst := some 134, op := Op.unOp UnOp.not 4 (Operand.tmp 133), g := some (132, true) },
                          { dst := some 135, op := Op.move (Operand.tmp 134), g := some (132, true) },
                          { dst := some 136, op := Op.move (Operand.tmp 17), g := some (135, false) },
                          { dst := some 137, op := Op.move (Operand.tmp 8), g := some (135, false) },
                          { dst := some 138, op := Op.binOp BinOp.eql 3 (Operand.tmp 136) (Operand.tmp 137) 3,
                            g := some (135, false) },
                          { dst := some 139,
                            op := Op.pick (Operand.tmp 135) (Operand.const (Value.bool true)) (Operand.tmp 138),
                            g := some (132, true) },
                          { dst := some 140,
                            op := Op.pick (Operand.tmp 132) (Operand.tmp 139) (Operand.const (Value.bool false)),
                            g := none },
                          { dst := some 4, op := Op.assign (Operand.tmp 140), g := none }]
                        { lo := 129, hi := 140, xs := [] } [])
                      AC.ret)))))))))

theorem e10 : slim (Try.f10.body.getD .skip) = c10 := by kernel_rfl
theorem b10 : Try.f10.body = some (Try.f10.body.getD .skip) := by kernel_rfl
theorem d10 : textOk Try.prog 141 (Try.f10.body.getD .skip) = true := by kernel_rfl
theorem r10 : Try.f10.results.toList = [ResultVar.tmp 4] := by kernel_rfl
theorem n10 : Try.f10.name ≠ "runtime.NumGoroutine" := by decide
end Go.Av
