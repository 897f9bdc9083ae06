/- Part of a proof by symbolic walks on plain data. -/
import Derived.Test.YtpnpnldabhmojaaF8
import Derived.Test.YtpnpnldabhmojaaProg
set_option linter.unusedVariables false
set_option linter.unusedSimpArgs false
namespace Go.Av
open Go Go.RowKit Go.Proofs
def c27 : AC :=
  AC.seq
    (AC.reg
      [{ dst := some 2, op := Op.assign (Operand.const (Value.slice none 0 0)), g := none },
        { dst := some 3, op := Op.assign (Operand.const (Value.bool false)), g := none }]
      { lo := 1, hi := 0, xs := [] } [])
    (AC.seq
      (AC.seq
        (AC.reg
          [{ dst := some 13, op := Op.move (Operand.tmp 0), g := none },
            { dst := some 14,
              op :=
                Op.call
                  { callee := Callee.value (Operand.func 37), args := #[Operand.tmp 13],
                    argTypes := #[24] },
              g := none },
            { dst := some 15, op := Op.unOp UnOp.not 4 (Operand.tmp 14), g := none }]
          { lo := 13, hi := 14, xs := [] } [])
        (AC.cond (Operand.tmp 15)
          (AC.seq
            (AC.reg
              [{ dst := some 2, op := Op.assign (Operand.const (Value.slice none 0 0)), g := none },
                { dst := some 3, op := Op.assign (Operand.const (Value.bool false)), g := none }]
              { lo := 1, hi := 0, xs := [] } [])
            AC.ret)
          AC.skip))
      (AC.seq
        (AC.reg
          [{ dst := some 16, op := Op.move (Operand.tmp 0), g := none },
            { dst := some 17,
              op :=
                Op.call
                  { callee := Callee.builtin Builtin.len, args := #[Operand.tmp 16],
                    argTypes := #[24] },
              g := none },
            { dst := some 18, op := Op.makeSlice 51 (Operand.tmp 17) (Operand.tmp 17), g := none },
            { dst := some 4, op := Op.assign (Operand.tmp 18), g := none }]
          { lo := 16, hi := 18, xs := [] } [])
        (AC.seq
          (AC.reg [{ dst := some 5, op := Op.assign (Operand.const (Value.slice none 0 0)), g := none }]
            { lo := 1, hi := 0, xs := [] } [])
          (AC.seq
            (AC.block 0
              (AC.loop
                (AC.block 1
                  (AC.seq
                    (AC.reg [{ dst := some 6, op := Op.assign (Operand.const (Value.bool false)), g := none }]
                      { lo := 1, hi := 0, xs := [] } [])
                    (AC.seq
                      (AC.reg
                        [{ dst := some 19, op := Op.build 32 #[], g := none },
                          { dst := some 7, op := Op.alloc 32, g := none },
                          { dst := none, op := Op.store 32 (Operand.tmp 7) (Operand.tmp 19), g := none }]
                        { lo := 19, hi := 19, xs := [] } [])
                      (AC.seq
                        (AC.seq
                          (AC.reg
                            [{ dst := some 8, op := Op.assign (Operand.const (Value.int IntKind.i64 0)),
                                g := none }]
                            { lo := 1, hi := 0, xs := [] } [])
                          (AC.block 2
                            (AC.loop
                              (AC.seq
                                (AC.seq
                                  (AC.reg
                                    [{ dst := some 20, op := Op.move (Operand.tmp 8), g := none },
                                      { dst := some 21, op := Op.move (Operand.tmp 0), g := none },
                                      { dst := some 22,
                                        op :=
                                          Op.call
                                            { callee := Callee.builtin Builtin.len,
                                              args := #[Operand.tmp 21], argTypes := #[24] },
                                        g := none },
                                      { dst := some 23, op := Op.binOp BinOp.lss 3 (Operand.tmp 20) (Operand.tmp 22) 3,
                                        g := none }]
                                    { lo := 20, hi := 22, xs := [] } [])
                                  (AC.cond (Operand.tmp 23) AC.skip (AC.exit 2)))
                                (AC.seq
                                  (AC.block 3
                                    (AC.seq
                                      (AC.seq
                                        (AC.drw
                                          [{ o := { dst := some 26, op := Op.move (Operand.tmp 4), g := none },
                                              kn := [] },
                                            { o := { dst := some 27, op := Op.move (Operand.tmp 8), g := none },
                                              kn := [] },
                                            {
                                              o :=
                                                { dst := some 28, op := Op.indexAddr 51 (Operand.tmp 26) (Operand.tmp 27),
                                                  g := none },
                                              kn := [26, 27] },
                                            { o := { dst := some 29, op := Op.load 3 (Operand.tmp 28), g := none },
                                              kn := [28, 26, 27] },
                                            { o := { dst := some 30, op := Op.move (Operand.tmp 0), g := none },
                                              kn := [] },
                                            { o := { dst := some 31, op := Op.move (Operand.tmp 8), g := none },
                                              kn := [] },
                                            {
                                              o :=
                                                { dst := some 32, op := Op.indexAddr 24 (Operand.tmp 30) (Operand.tmp 31),
                                                  g := none },
                                              kn := [30, 31] },
                                            { o := { dst := some 33, op := Op.load 29 (Operand.tmp 32), g := none },
                                              kn := [32, 30, 31] },
                                            {
                                              o :=
                                                { dst := some 34,
                                                  op :=
                                                    Op.call
                                                      { callee := Callee.builtin Builtin.len,
                                                        args := #[Operand.tmp 33],
                                                        argTypes := #[29] },
                                                  g := none },
                                              kn := [33, 32, 30, 31] },
                                            {
                                              o :=
                                                { dst := some 35,
                                                  op := Op.binOp BinOp.geq 3 (Operand.tmp 29) (Operand.tmp 34) 3,
                                                  g := none },
                                              kn := [29, 28, 26, 27, 34, 33, 32, 30, 31] },
                                            { o := { dst := some 36, op := Op.move (Operand.tmp 35), g := none },
                                              kn := [35, 29, 28, 26, 27, 34, 33, 32, 30, 31] },
                                            {
                                              o :=
                                                { dst := some 37, op := Op.move (Operand.tmp 0), g := some (36, false) },
                                              kn := [36, 35, 29, 28, 26, 27, 34, 33, 32, 30, 31] },
                                            {
                                              o :=
                                                { dst := some 38, op := Op.move (Operand.tmp 8), g := some (36, false) },
                                              kn := [36, 35, 29, 28, 26, 27, 34, 33, 32, 30, 31] },
                                            {
                                              o :=
                                                { dst := some 39, op := Op.indexAddr 24 (Operand.tmp 37) (Operand.tmp 38),
                                                  g := some (36, false) },
                                              kn := [37, 38, 36, 35, 29, 28, 26, 27, 34, 33, 32, 30, 31] },
                                            {
                                              o :=
                                                { dst := some 40, op := Op.load 29 (Operand.tmp 39),
                                                  g := some (36, false) },
                                              kn := [39, 37, 38, 36, 35, 29, 28, 26, 27, 34, 33, 32, 30, 31] },
                                            {
                                              o :=
                                                { dst := some 41, op := Op.move (Operand.tmp 4), g := some (36, false) },
                                              kn := [36, 35, 29, 28, 26, 27, 34, 33, 32, 30, 31] },
                                            {
                                              o :=
                                                { dst := some 42, op := Op.move (Operand.tmp 8), g := some (36, false) },
                                              kn := [36, 35, 29, 28, 26, 27, 34, 33, 32, 30, 31] },
                                            {
                                              o :=
                                                { dst := some 43, op := Op.indexAddr 51 (Operand.tmp 41) (Operand.tmp 42),
                                                  g := some (36, false) },
                                              kn := [41, 42, 36, 35, 29, 28, 26, 27, 34, 33, 32, 30, 31] },
                                            {
                                              o :=
                                                { dst := some 44, op := Op.load 3 (Operand.tmp 43),
                                                  g := some (36, false) },
                                              kn := [43, 41, 42, 36, 35, 29, 28, 26, 27, 34, 33, 32, 30, 31] },
                                            {
                                              o :=
                                                { dst := some 45, op := Op.indexAddr 29 (Operand.tmp 40) (Operand.tmp 44),
                                                  g := some (36, false) },
                                              kn :=
                                                [40, 39, 37, 38, 44, 43, 41, 42, 36, 35, 29, 28, 26, 27, 34, 33, 32, 30,
                                                  31] },
                                            {
                                              o :=
                                                { dst := some 46, op := Op.fieldAddr 44 (Operand.tmp 45) 1,
                                                  g := some (36, false) },
                                              kn :=
                                                [45, 40, 39, 37, 38, 44, 43, 41, 42, 36, 35, 29, 28, 26, 27, 34, 33, 32,
                                                  30, 31] },
                                            {
                                              o :=
                                                { dst := some 47, op := Op.load 4 (Operand.tmp 46),
                                                  g := some (36, false) },
                                              kn :=
                                                [46, 45, 40, 39, 37, 38, 44, 43, 41, 42, 36, 35, 29, 28, 26, 27, 34, 33,
                                                  32, 30, 31] },
                                            {
                                              o :=
                                                { dst := some 48, op := Op.unOp UnOp.not 4 (Operand.tmp 47),
                                                  g := some (36, false) },
                                              kn :=
                                                [47, 46, 45, 40, 39, 37, 38, 44, 43, 41, 42, 36, 35, 29, 28, 26, 27, 34,
                                                  33, 32, 30, 31] },
                                            {
                                              o :=
                                                { dst := some 49,
                                                  op :=
                                                    Op.pick (Operand.tmp 36) (Operand.const (Value.bool true))
                                                      (Operand.tmp 48),
                                                  g := none },
                                              kn :=
                                                [48, 47, 46, 45, 40, 39, 37, 38, 44, 43, 41, 42, 36, 35, 29, 28, 26, 27,
                                                  34, 33, 32, 30, 31] }]
                                          [] { lo := 26, hi := 49, xs := [] } { lo := 26, hi := 48, xs := [] } [])
                                        (AC.cond (Operand.tmp 49) (AC.exit 3) AC.skip))
                                      (AC.seq
                                        (AC.drw
                                          [{ o := { dst := some 50, op := Op.move (Operand.tmp 0), g := none },
                                              kn := [] },
                                            { o := { dst := some 51, op := Op.move (Operand.tmp 8), g := none },
                                              kn := [] },
                                            {
                                              o :=
                                                { dst := some 52, op := Op.indexAddr 24 (Operand.tmp 50) (Operand.tmp 51),
                                                  g := none },
                                              kn := [50, 51] },
                                            { o := { dst := some 53, op := Op.load 29 (Operand.tmp 52), g := none },
                                              kn := [52, 50, 51] },
                                            { o := { dst := some 54, op := Op.move (Operand.tmp 4), g := none },
                                              kn := [] },
                                            { o := { dst := some 55, op := Op.move (Operand.tmp 8), g := none },
                                              kn := [] },
                                            {
                                              o :=
                                                { dst := some 56, op := Op.indexAddr 51 (Operand.tmp 54) (Operand.tmp 55),
                                                  g := none },
                                              kn := [54, 55] },
                                            { o := { dst := some 57, op := Op.load 3 (Operand.tmp 56), g := none },
                                              kn := [56, 54, 55] },
                                            {
                                              o :=
                                                { dst := some 58, op := Op.indexAddr 29 (Operand.tmp 53) (Operand.tmp 57),
                                                  g := none },
                                              kn := [53, 52, 50, 51, 57, 56, 54, 55] },
                                            { o := { dst := some 59, op := Op.load 44 (Operand.tmp 58), g := none },
                                              kn := [58, 53, 52, 50, 51, 57, 56, 54, 55] },
                                            { o := { dst := some 9, op := Op.alloc 44, g := none }, kn := [] }]
                                          [{
                                              o :=
                                                { dst := none, op := Op.store 44 (Operand.tmp 9) (Operand.tmp 59),
                                                  g := none },
                                              kn := [9, 59, 58, 53, 52, 50, 51, 57, 56, 54, 55], un := [] }]
                                          { lo := 50, hi := 59, xs := [9] } { lo := 50, hi := 59, xs := [] } [])
                                        (AC.seq
                                          (AC.reg
                                            [{ dst := some 60, op := Op.fieldAddr 44 (Operand.tmp 9) 2, g := none },
                                              { dst := some 61, op := Op.load 3 (Operand.tmp 60), g := none },
                                              { dst := some 10, op := Op.assign (Operand.tmp 61), g := none }]
                                            { lo := 60, hi := 61, xs := [] } [])
                                          (AC.seq
                                            (AC.seq
                                              (AC.drw
                                                [{ o := { dst := some 62, op := Op.move (Operand.tmp 4), g := none },
                                                    kn := [] },
                                                  { o := { dst := some 63, op := Op.move (Operand.tmp 10), g := none },
                                                    kn := [] },
                                                  {
                                                    o :=
                                                      { dst := some 64,
                                                        op := Op.indexAddr 51 (Operand.tmp 62) (Operand.tmp 63),
                                                        g := none },
                                                    kn := [62, 63] },
                                                  { o := { dst := some 65, op := Op.load 3 (Operand.tmp 64), g := none },
                                                    kn := [64, 62, 63] },
                                                  { o := { dst := some 66, op := Op.move (Operand.tmp 0), g := none },
                                                    kn := [] },
                                                  { o := { dst := some 67, op := Op.move (Operand.tmp 10), g := none },
                                                    kn := [] },
                                                  {
                                                    o :=
                                                      { dst := some 68,
                                                        op := Op.indexAddr 24 (Operand.tmp 66) (Operand.tmp 67),
                                                        g := none },
                                                    kn := [66, 67] },
                                                  { o := { dst := some 69, op := Op.load 29 (Operand.tmp 68), g := none },
                                                    kn := [68, 66, 67] },
                                                  {
                                                    o :=
                                                      { dst := some 70,
                                                        op :=
                                                          Op.call
                                                            { callee := Callee.builtin Builtin.len,
                                                              args := #[Operand.tmp 69],
                                                              argTypes := #[29] },
                                                        g := none },
                                                    kn := [69, 68, 66, 67] },
                                                  {
                                                    o :=
                                                      { dst := some 71,
                                                        op := Op.binOp BinOp.geq 3 (Operand.tmp 65) (Operand.tmp 70) 3,
                                                        g := none },
                                                    kn := [65, 64, 62, 63, 70, 69, 68, 66, 67] },
                                                  { o := { dst := some 72, op := Op.move (Operand.tmp 71), g := none },
                                                    kn := [71, 65, 64, 62, 63, 70, 69, 68, 66, 67] },
                                                  {
                                                    o :=
                                                      { dst := some 73, op := Op.move (Operand.tmp 0),
                                                        g := some (72, false) },
                                                    kn := [72, 71, 65, 64, 62, 63, 70, 69, 68, 66, 67] },
                                                  {
                                                    o :=
                                                      { dst := some 74, op := Op.move (Operand.tmp 10),
                                                        g := some (72, false) },
                                                    kn := [72, 71, 65, 64, 62, 63, 70, 69, 68, 66, 67] },
                                                  {
                                                    o :=
                                                      { dst := some 75,
                                                        op := Op.indexAddr 24 (Operand.tmp 73) (Operand.tmp 74),
                                                        g := some (72, false) },
                                                    kn := [73, 74, 72, 71, 65, 64, 62, 63, 70, 69, 68, 66, 67] },
                                                  {
                                                    o :=
                                                      { dst := some 76, op := Op.load 29 (Operand.tmp 75),
                                                        g := some (72, false) },
                                                    kn := [75, 73, 74, 72, 71, 65, 64, 62, 63, 70, 69, 68, 66, 67] },
                                                  {
                                                    o :=
                                                      { dst := some 77, op := Op.move (Operand.tmp 4),
                                                        g := some (72, false) },
                                                    kn := [72, 71, 65, 64, 62, 63, 70, 69, 68, 66, 67] },
                                                  {
                                                    o :=
                                                      { dst := some 78, op := Op.move (Operand.tmp 10),
                                                        g := some (72, false) },
                                                    kn := [72, 71, 65, 64, 62, 63, 70, 69, 68, 66, 67] },
                                                  {
                                                    o :=
                                                      { dst := some 79,
                                                        op := Op.indexAddr 51 (Operand.tmp 77) (Operand.tmp 78),
                                                        g := some (72, false) },
                                                    kn := [77, 78, 72, 71, 65, 64, 62, 63, 70, 69, 68, 66, 67] },
                                                  {
                                                    o :=
                                                      { dst := some 80, op := Op.load 3 (Operand.tmp 79),
                                                        g := some (72, false) },
                                                    kn := [79, 77, 78, 72, 71, 65, 64, 62, 63, 70, 69, 68, 66, 67] },
                                                  {
                                                    o :=
                                                      { dst := some 81,
                                                        op := Op.indexAddr 29 (Operand.tmp 76) (Operand.tmp 80),
                                                        g := some (72, false) },
                                                    kn :=
                                                      [76, 75, 73, 74, 80, 79, 77, 78, 72, 71, 65, 64, 62, 63, 70, 69, 68,
                                                        66, 67] },
                                                  {
                                                    o :=
                                                      { dst := some 82, op := Op.fieldAddr 44 (Operand.tmp 81) 1,
                                                        g := some (72, false) },
                                                    kn :=
                                                      [81, 76, 75, 73, 74, 80, 79, 77, 78, 72, 71, 65, 64, 62, 63, 70, 69,
                                                        68, 66, 67] },
                                                  {
                                                    o :=
                                                      { dst := some 83, op := Op.load 4 (Operand.tmp 82),
                                                        g := some (72, false) },
                                                    kn :=
                                                      [82, 81, 76, 75, 73, 74, 80, 79, 77, 78, 72, 71, 65, 64, 62, 63, 70,
                                                        69, 68, 66, 67] },
                                                  {
                                                    o :=
                                                      { dst := some 84,
                                                        op :=
                                                          Op.pick (Operand.tmp 72) (Operand.const (Value.bool true))
                                                            (Operand.tmp 83),
                                                        g := none },
                                                    kn :=
                                                      [83, 82, 81, 76, 75, 73, 74, 80, 79, 77, 78, 72, 71, 65, 64, 62, 63,
                                                        70, 69, 68, 66, 67] },
                                                  { o := { dst := some 85, op := Op.move (Operand.tmp 84), g := none },
                                                    kn :=
                                                      [84, 83, 82, 81, 76, 75, 73, 74, 80, 79, 77, 78, 72, 71, 65, 64, 62,
                                                        63, 70, 69, 68, 66, 67] },
                                                  {
                                                    o :=
                                                      { dst := some 86, op := Op.move (Operand.tmp 0),
                                                        g := some (85, false) },
                                                    kn :=
                                                      [85, 84, 83, 82, 81, 76, 75, 73, 74, 80, 79, 77, 78, 72, 71, 65, 64,
                                                        62, 63, 70, 69, 68, 66, 67] },
                                                  {
                                                    o :=
                                                      { dst := some 87, op := Op.move (Operand.tmp 10),
                                                        g := some (85, false) },
                                                    kn :=
                                                      [85, 84, 83, 82, 81, 76, 75, 73, 74, 80, 79, 77, 78, 72, 71, 65, 64,
                                                        62, 63, 70, 69, 68, 66, 67] },
                                                  {
                                                    o :=
                                                      { dst := some 88,
                                                        op := Op.indexAddr 24 (Operand.tmp 86) (Operand.tmp 87),
                                                        g := some (85, false) },
                                                    kn :=
                                                      [86, 87, 85, 84, 83, 82, 81, 76, 75, 73, 74, 80, 79, 77, 78, 72, 71,
                                                        65, 64, 62, 63, 70, 69, 68, 66, 67] },
                                                  {
                                                    o :=
                                                      { dst := some 89, op := Op.load 29 (Operand.tmp 88),
                                                        g := some (85, false) },
                                                    kn :=
                                                      [88, 86, 87, 85, 84, 83, 82, 81, 76, 75, 73, 74, 80, 79, 77, 78, 72,
                                                        71, 65, 64, 62, 63, 70, 69, 68, 66, 67] },
                                                  {
                                                    o :=
                                                      { dst := some 90, op := Op.move (Operand.tmp 4),
                                                        g := some (85, false) },
                                                    kn :=
                                                      [85, 84, 83, 82, 81, 76, 75, 73, 74, 80, 79, 77, 78, 72, 71, 65, 64,
                                                        62, 63, 70, 69, 68, 66, 67] },
                                                  {
                                                    o :=
                                                      { dst := some 91, op := Op.move (Operand.tmp 10),
                                                        g := some (85, false) },
                                                    kn :=
                                                      [85, 84, 83, 82, 81, 76, 75, 73, 74, 80, 79, 77, 78, 72, 71, 65, 64,
                                                        62, 63, 70, 69, 68, 66, 67] },
                                                  {
                                                    o :=
                                                      { dst := some 92,
                                                        op := Op.indexAddr 51 (Operand.tmp 90) (Operand.tmp 91),
                                                        g := some (85, false) },
                                                    kn :=
                                                      [90, 91, 85, 84, 83, 82, 81, 76, 75, 73, 74, 80, 79, 77, 78, 72, 71,
                                                        65, 64, 62, 63, 70, 69, 68, 66, 67] },
                                                  {
                                                    o :=
                                                      { dst := some 93, op := Op.load 3 (Operand.tmp 92),
                                                        g := some (85, false) },
                                                    kn :=
                                                      [92, 90, 91, 85, 84, 83, 82, 81, 76, 75, 73, 74, 80, 79, 77, 78, 72,
                                                        71, 65, 64, 62, 63, 70, 69, 68, 66, 67] },
                                                  {
                                                    o :=
                                                      { dst := some 94,
                                                        op := Op.indexAddr 29 (Operand.tmp 89) (Operand.tmp 93),
                                                        g := some (85, false) },
                                                    kn :=
                                                      [89, 88, 86, 87, 93, 92, 90, 91, 85, 84, 83, 82, 81, 76, 75, 73, 74,
                                                        80, 79, 77, 78, 72, 71, 65, 64, 62, 63, 70, 69, 68, 66, 67] },
                                                  {
                                                    o :=
                                                      { dst := some 95, op := Op.fieldAddr 44 (Operand.tmp 94) 2,
                                                        g := some (85, false) },
                                                    kn :=
                                                      [94, 89, 88, 86, 87, 93, 92, 90, 91, 85, 84, 83, 82, 81, 76, 75, 73,
                                                        74, 80, 79, 77, 78, 72, 71, 65, 64, 62, 63, 70, 69, 68, 66, 67] },
                                                  {
                                                    o :=
                                                      { dst := some 96, op := Op.load 3 (Operand.tmp 95),
                                                        g := some (85, false) },
                                                    kn :=
                                                      [95, 94, 89, 88, 86, 87, 93, 92, 90, 91, 85, 84, 83, 82, 81, 76, 75,
                                                        73, 74, 80, 79, 77, 78, 72, 71, 65, 64, 62, 63, 70, 69, 68, 66,
                                                        67] },
                                                  {
                                                    o :=
                                                      { dst := some 97, op := Op.move (Operand.tmp 8),
                                                        g := some (85, false) },
                                                    kn :=
                                                      [85, 84, 83, 82, 81, 76, 75, 73, 74, 80, 79, 77, 78, 72, 71, 65, 64,
                                                        62, 63, 70, 69, 68, 66, 67] },
                                                  {
                                                    o :=
                                                      { dst := some 98,
                                                        op := Op.binOp BinOp.neq 3 (Operand.tmp 96) (Operand.tmp 97) 3,
                                                        g := some (85, false) },
                                                    kn :=
                                                      [96, 95, 94, 89, 88, 86, 87, 93, 92, 90, 91, 97, 85, 84, 83, 82, 81,
                                                        76, 75, 73, 74, 80, 79, 77, 78, 72, 71, 65, 64, 62, 63, 70, 69,
                                                        68, 66, 67] },
                                                  {
                                                    o :=
                                                      { dst := some 99,
                                                        op :=
                                                          Op.pick (Operand.tmp 85) (Operand.const (Value.bool true))
                                                            (Operand.tmp 98),
                                                        g := none },
                                                    kn :=
                                                      [98, 96, 95, 94, 89, 88, 86, 87, 93, 92, 90, 91, 97, 85, 84, 83, 82,
                                                        81, 76, 75, 73, 74, 80, 79, 77, 78, 72, 71, 65, 64, 62, 63, 70,
                                                        69, 68, 66, 67] },
                                                  { o := { dst := some 100, op := Op.move (Operand.tmp 99), g := none },
                                                    kn :=
                                                      [99, 98, 96, 95, 94, 89, 88, 86, 87, 93, 92, 90, 91, 97, 85, 84, 83,
                                                        82, 81, 76, 75, 73, 74, 80, 79, 77, 78, 72, 71, 65, 64, 62, 63,
                                                        70, 69, 68, 66, 67] },
                                                  {
                                                    o :=
                                                      { dst := some 101, op := Op.move (Operand.tmp 0),
                                                        g := some (100, false) },
                                                    kn :=
                                                      [100, 99, 98, 96, 95, 94, 89, 88, 86, 87, 93, 92, 90, 91, 97, 85,
                                                        84, 83, 82, 81, 76, 75, 73, 74, 80, 79, 77, 78, 72, 71, 65, 64,
                                                        62, 63, 70, 69, 68, 66, 67] },
                                                  {
                                                    o :=
                                                      { dst := some 102, op := Op.move (Operand.tmp 10),
                                                        g := some (100, false) },
                                                    kn :=
                                                      [100, 99, 98, 96, 95, 94, 89, 88, 86, 87, 93, 92, 90, 91, 97, 85,
                                                        84, 83, 82, 81, 76, 75, 73, 74, 80, 79, 77, 78, 72, 71, 65, 64,
                                                        62, 63, 70, 69, 68, 66, 67] },
                                                  {
                                                    o :=
                                                      { dst := some 103,
                                                        op := Op.indexAddr 24 (Operand.tmp 101) (Operand.tmp 102),
                                                        g := some (100, false) },
                                                    kn :=
                                                      [101, 102, 100, 99, 98, 96, 95, 94, 89, 88, 86, 87, 93, 92, 90, 91,
                                                        97, 85, 84, 83, 82, 81, 76, 75, 73, 74, 80, 79, 77, 78, 72, 71,
                                                        65, 64, 62, 63, 70, 69, 68, 66, 67] },
                                                  {
                                                    o :=
                                                      { dst := some 104, op := Op.load 29 (Operand.tmp 103),
                                                        g := some (100, false) },
                                                    kn :=
                                                      [103, 101, 102, 100, 99, 98, 96, 95, 94, 89, 88, 86, 87, 93, 92, 90,
                                                        91, 97, 85, 84, 83, 82, 81, 76, 75, 73, 74, 80, 79, 77, 78, 72,
                                                        71, 65, 64, 62, 63, 70, 69, 68, 66, 67] },
                                                  {
                                                    o :=
                                                      { dst := some 105, op := Op.move (Operand.tmp 4),
                                                        g := some (100, false) },
                                                    kn :=
                                                      [100, 99, 98, 96, 95, 94, 89, 88, 86, 87, 93, 92, 90, 91, 97, 85,
                                                        84, 83, 82, 81, 76, 75, 73, 74, 80, 79, 77, 78, 72, 71, 65, 64,
                                                        62, 63, 70, 69, 68, 66, 67] },
                                                  {
                                                    o :=
                                                      { dst := some 106, op := Op.move (Operand.tmp 10),
                                                        g := some (100, false) },
                                                    kn :=
                                                      [100, 99, 98, 96, 95, 94, 89, 88, 86, 87, 93, 92, 90, 91, 97, 85,
                                                        84, 83, 82, 81, 76, 75, 73, 74, 80, 79, 77, 78, 72, 71, 65, 64,
                                                        62, 63, 70, 69, 68, 66, 67] },
                                                  {
                                                    o :=
                                                      { dst := some 107,
                                                        op := Op.indexAddr 51 (Operand.tmp 105) (Operand.tmp 106),
                                                        g := some (100, false) },
                                                    kn :=
                                                      [105, 106, 100, 99, 98, 96, 95, 94, 89, 88, 86, 87, 93, 92, 90, 91,
                                                        97, 85, 84, 83, 82, 81, 76, 75, 73, 74, 80, 79, 77, 78, 72, 71,
                                                        65, 64, 62, 63, 70, 69, 68, 66, 67] },
                                                  {
                                                    o :=
                                                      { dst := some 108, op := Op.load 3 (Operand.tmp 107),
                                                        g := some (100, false) },
                                                    kn :=
                                                      [107, 105, 106, 100, 99, 98, 96, 95, 94, 89, 88, 86, 87, 93, 92, 90,
                                                        91, 97, 85, 84, 83, 82, 81, 76, 75, 73, 74, 80, 79, 77, 78, 72,
                                                        71, 65, 64, 62, 63, 70, 69, 68, 66, 67] },
                                                  {
                                                    o :=
                                                      { dst := some 109,
                                                        op := Op.indexAddr 29 (Operand.tmp 104) (Operand.tmp 108),
                                                        g := some (100, false) },
                                                    kn :=
                                                      [104, 103, 101, 102, 108, 107, 105, 106, 100, 99, 98, 96, 95, 94,
                                                        89, 88, 86, 87, 93, 92, 90, 91, 97, 85, 84, 83, 82, 81, 76, 75,
                                                        73, 74, 80, 79, 77, 78, 72, 71, 65, 64, 62, 63, 70, 69, 68, 66,
                                                        67] },
                                                  {
                                                    o :=
                                                      { dst := some 110, op := Op.fieldAddr 44 (Operand.tmp 109) 3,
                                                        g := some (100, false) },
                                                    kn :=
                                                      [109, 104, 103, 101, 102, 108, 107, 105, 106, 100, 99, 98, 96, 95,
                                                        94, 89, 88, 86, 87, 93, 92, 90, 91, 97, 85, 84, 83, 82, 81, 76,
                                                        75, 73, 74, 80, 79, 77, 78, 72, 71, 65, 64, 62, 63, 70, 69, 68,
                                                        66, 67] },
                                                  {
                                                    o :=
                                                      { dst := some 111, op := Op.load 3 (Operand.tmp 110),
                                                        g := some (100, false) },
                                                    kn :=
                                                      [110, 109, 104, 103, 101, 102, 108, 107, 105, 106, 100, 99, 98, 96,
                                                        95, 94, 89, 88, 86, 87, 93, 92, 90, 91, 97, 85, 84, 83, 82, 81,
                                                        76, 75, 73, 74, 80, 79, 77, 78, 72, 71, 65, 64, 62, 63, 70, 69,
                                                        68, 66, 67] },
                                                  {
                                                    o :=
                                                      { dst := some 112, op := Op.fieldAddr 44 (Operand.tmp 9) 3,
                                                        g := some (100, false) },
                                                    kn :=
                                                      [100, 99, 98, 96, 95, 94, 89, 88, 86, 87, 93, 92, 90, 91, 97, 85,
                                                        84, 83, 82, 81, 76, 75, 73, 74, 80, 79, 77, 78, 72, 71, 65, 64,
                                                        62, 63, 70, 69, 68, 66, 67] },
                                                  {
                                                    o :=
                                                      { dst := some 113, op := Op.load 3 (Operand.tmp 112),
                                                        g := some (100, false) },
                                                    kn :=
                                                      [112, 100, 99, 98, 96, 95, 94, 89, 88, 86, 87, 93, 92, 90, 91, 97,
                                                        85, 84, 83, 82, 81, 76, 75, 73, 74, 80, 79, 77, 78, 72, 71, 65,
                                                        64, 62, 63, 70, 69, 68, 66, 67] },
                                                  {
                                                    o :=
                                                      { dst := some 114,
                                                        op := Op.binOp BinOp.neq 3 (Operand.tmp 111) (Operand.tmp 113) 3,
                                                        g := some (100, false) },
                                                    kn :=
                                                      [111, 110, 109, 104, 103, 101, 102, 108, 107, 105, 106, 113, 112,
                                                        100, 99, 98, 96, 95, 94, 89, 88, 86, 87, 93, 92, 90, 91, 97, 85,
                                                        84, 83, 82, 81, 76, 75, 73, 74, 80, 79, 77, 78, 72, 71, 65, 64,
                                                        62, 63, 70, 69, 68, 66, 67] },
                                                  {
                                                    o :=
                                                      { dst := some 115,
                                                        op :=
                                                          Op.pick (Operand.tmp 100) (Operand.const (Value.bool true))
                                                            (Operand.tmp 114),
                                                        g := none },
                                                    kn :=
                                                      [114, 111, 110, 109, 104, 103, 101, 102, 108, 107, 105, 106, 113,
                                                        112, 100, 99, 98, 96, 95, 94, 89, 88, 86, 87, 93, 92, 90, 91, 97,
                                                        85, 84, 83, 82, 81, 76, 75, 73, 74, 80, 79, 77, 78, 72, 71, 65,
                                                        64, 62, 63, 70, 69, 68, 66, 67] }]
                                                [] { lo := 62, hi := 115, xs := [] } { lo := 62, hi := 114, xs := [] } [])
                                              (AC.cond (Operand.tmp 115) (AC.exit 3) AC.skip))
                                            (AC.seq
                                              (AC.reg
                                                [{ dst := some 116, op := Op.move (Operand.tmp 8), g := none },
                                                  { dst := some 117, op := Op.move (Operand.tmp 10), g := none },
                                                  { dst := some 118, op := Op.fieldAddr 44 (Operand.tmp 9) 3, g := none },
                                                  { dst := some 119, op := Op.load 3 (Operand.tmp 118), g := none },
                                                  { dst := some 120,
                                                    op :=
                                                      Op.build 32
                                                        #[(0, Operand.tmp 116), (1, Operand.tmp 117),
                                                              (2, Operand.tmp 119)],
                                                    g := none },
                                                  { dst := some 11, op := Op.alloc 32, g := none },
                                                  { dst := none, op := Op.store 32 (Operand.tmp 11) (Operand.tmp 120),
                                                    g := none }]
                                                { lo := 116, hi := 120, xs := [] } [])
                                              (AC.seq
                                                (AC.reg
                                                  [{ dst := some 121, op := Op.move (Operand.tmp 6), g := none },
                                                    { dst := some 122, op := Op.unOp UnOp.not 4 (Operand.tmp 121),
                                                      g := none },
                                                    { dst := some 123, op := Op.move (Operand.tmp 122), g := none },
                                                    { dst := some 124, op := Op.load 32 (Operand.tmp 11),
                                                      g := some (123, false) },
                                                    { dst := some 125, op := Op.load 32 (Operand.tmp 7),
                                                      g := some (123, false) },
                                                    { dst := some 126,
                                                      op :=
                                                        Op.call
                                                          { callee := Callee.value (Operand.func 24),
                                                            args := #[Operand.tmp 124, Operand.tmp 125],
                                                            argTypes := #[32, 32] },
                                                      g := some (123, false) },
                                                    { dst := some 127,
                                                      op :=
                                                        Op.pick (Operand.tmp 123) (Operand.const (Value.bool true))
                                                          (Operand.tmp 126),
                                                      g := none }]
                                                  { lo := 121, hi := 126, xs := [] } [])
                                                (AC.cond (Operand.tmp 127)
                                                  (AC.drw
                                                    [{
                                                        o :=
                                                          { dst := some 128, op := Op.load 32 (Operand.tmp 11),
                                                            g := none },
                                                        kn := [] }]
                                                    [{
                                                        o :=
                                                          { dst := some 6,
                                                            op := Op.assign (Operand.const (Value.bool true)),
                                                            g := none },
                                                        kn := [], un := [true] },
                                                      {
                                                        o :=
                                                          { dst := none,
                                                            op := Op.store 32 (Operand.tmp 7) (Operand.tmp 128),
                                                            g := none },
                                                        kn := [128], un := [] }]
                                                    { lo := 128, hi := 128, xs := [] } { lo := 128, hi := 128, xs := [] }
                                                    [])
                                                  AC.skip))))))))
                                  (AC.reg
                                    [{ dst := some 24, op := Op.move (Operand.tmp 8), g := none },
                                      { dst := some 25,
                                        op :=
                                          Op.binOp BinOp.add 3 (Operand.tmp 24)
                                            (Operand.const (Value.int IntKind.i64 1)) 3,
                                        g := none },
                                      { dst := some 8, op := Op.assign (Operand.tmp 25), g := none }]
                                    { lo := 24, hi := 25, xs := [] } []))))))
                        (AC.seq
                          (AC.seq
                            (AC.reg
                              [{ dst := some 129, op := Op.move (Operand.tmp 6), g := none },
                                { dst := some 130, op := Op.unOp UnOp.not 4 (Operand.tmp 129), g := none }]
                              { lo := 129, hi := 129, xs := [] } [])
                            (AC.cond (Operand.tmp 130) (AC.exit 0) AC.skip))
                          (AC.seq
                            (AC.reg
                              [{ dst := some 131, op := Op.move (Operand.tmp 4), g := none },
                                { dst := some 132, op := Op.fieldAddr 32 (Operand.tmp 7) 0, g := none },
                                { dst := some 133, op := Op.load 3 (Operand.tmp 132), g := none },
                                { dst := some 134, op := Op.indexAddr 51 (Operand.tmp 131) (Operand.tmp 133), g := none },
                                { dst := some 135, op := Op.load 3 (Operand.tmp 134), g := none },
                                { dst := some 136,
                                  op :=
                                    Op.binOp BinOp.add 3 (Operand.tmp 135)
                                      (Operand.const (Value.int IntKind.i64 1)) 3,
                                  g := none },
                                { dst := some 137, op := Op.indexAddr 51 (Operand.tmp 131) (Operand.tmp 133), g := none },
                                { dst := none, op := Op.store 3 (Operand.tmp 137) (Operand.tmp 136), g := none }]
                              { lo := 131, hi := 137, xs := [] } [])
                            (AC.seq
                              (AC.reg
                                [{ dst := some 138, op := Op.move (Operand.tmp 4), g := none },
                                  { dst := some 139, op := Op.fieldAddr 32 (Operand.tmp 7) 1, g := none },
                                  { dst := some 140, op := Op.load 3 (Operand.tmp 139), g := none },
                                  { dst := some 141, op := Op.indexAddr 51 (Operand.tmp 138) (Operand.tmp 140),
                                    g := none },
                                  { dst := some 142, op := Op.load 3 (Operand.tmp 141), g := none },
                                  { dst := some 143,
                                    op :=
                                      Op.binOp BinOp.add 3 (Operand.tmp 142)
                                        (Operand.const (Value.int IntKind.i64 1)) 3,
                                    g := none },
                                  { dst := some 144, op := Op.indexAddr 51 (Operand.tmp 138) (Operand.tmp 140),
                                    g := none },
                                  { dst := none, op := Op.store 3 (Operand.tmp 144) (Operand.tmp 143), g := none }]
                                { lo := 138, hi := 144, xs := [] } [])
                              (AC.reg
                                [{ dst := some 145, op := Op.move (Operand.tmp 5), g := none },
                                  { dst := some 146, op := Op.load 32 (Operand.tmp 7), g := none },
                                  { dst := some 147, op := Op.buildSlice 22 1 #[(0, Operand.tmp 146)],
                                    g := none },
                                  { dst := some 148,
                                    op :=
                                      Op.call
                                        { callee := Callee.builtin Builtin.append,
                                          args := #[Operand.tmp 145, Operand.tmp 147],
                                          argTypes := #[22, 22] },
                                    g := none },
                                  { dst := some 5, op := Op.assign (Operand.tmp 148), g := none }]
                                { lo := 145, hi := 148, xs := [] } []))))))))))
            (AC.seq
              (AC.seq
                (AC.reg
                  [{ dst := some 12, op := Op.assign (Operand.const (Value.int IntKind.i64 0)), g := none }]
                  { lo := 1, hi := 0, xs := [] } [])
                (AC.block 4
                  (AC.loop
                    (AC.seq
                      (AC.seq
                        (AC.reg
                          [{ dst := some 149, op := Op.move (Operand.tmp 12), g := none },
                            { dst := some 150, op := Op.move (Operand.tmp 0), g := none },
                            { dst := some 151,
                              op :=
                                Op.call
                                  { callee := Callee.builtin Builtin.len, args := #[Operand.tmp 150],
                                    argTypes := #[24] },
                              g := none },
                            { dst := some 152, op := Op.binOp BinOp.lss 3 (Operand.tmp 149) (Operand.tmp 151) 3,
                              g := none }]
                          { lo := 149, hi := 151, xs := [] } [])
                        (AC.cond (Operand.tmp 152) AC.skip (AC.exit 4)))
                      (AC.seq
                        (AC.block 5
                          (AC.seq
                            (AC.drw
                              [{ o := { dst := some 155, op := Op.move (Operand.tmp 4), g := none }, kn := [] },
                                { o := { dst := some 156, op := Op.move (Operand.tmp 12), g := none }, kn := [] },
                                {
                                  o :=
                                    { dst := some 157, op := Op.indexAddr 51 (Operand.tmp 155) (Operand.tmp 156),
                                      g := none },
                                  kn := [155, 156] },
                                { o := { dst := some 158, op := Op.load 3 (Operand.tmp 157), g := none },
                                  kn := [157, 155, 156] },
                                { o := { dst := some 159, op := Op.move (Operand.tmp 0), g := none }, kn := [] },
                                { o := { dst := some 160, op := Op.move (Operand.tmp 12), g := none }, kn := [] },
                                {
                                  o :=
                                    { dst := some 161, op := Op.indexAddr 24 (Operand.tmp 159) (Operand.tmp 160),
                                      g := none },
                                  kn := [159, 160] },
                                { o := { dst := some 162, op := Op.load 29 (Operand.tmp 161), g := none },
                                  kn := [161, 159, 160] },
                                {
                                  o :=
                                    { dst := some 163,
                                      op :=
                                        Op.call
                                          { callee := Callee.builtin Builtin.len, args := #[Operand.tmp 162],
                                            argTypes := #[29] },
                                      g := none },
                                  kn := [162, 161, 159, 160] },
                                {
                                  o :=
                                    { dst := some 164, op := Op.binOp BinOp.lss 3 (Operand.tmp 158) (Operand.tmp 163) 3,
                                      g := none },
                                  kn := [158, 157, 155, 156, 163, 162, 161, 159, 160] }]
                              [] { lo := 155, hi := 164, xs := [] } { lo := 155, hi := 163, xs := [] } [])
                            (AC.cond (Operand.tmp 164)
                              (AC.seq
                                (AC.reg
                                  [{ dst := some 2, op := Op.assign (Operand.const (Value.slice none 0 0)), g := none },
                                    { dst := some 3, op := Op.assign (Operand.const (Value.bool false)), g := none }]
                                  { lo := 1, hi := 0, xs := [] } [])
                                AC.ret)
                              AC.skip)))
                        (AC.reg
                          [{ dst := some 153, op := Op.move (Operand.tmp 12), g := none },
                            { dst := some 154,
                              op :=
                                Op.binOp BinOp.add 3 (Operand.tmp 153)
                                  (Operand.const (Value.int IntKind.i64 1)) 3,
                              g := none },
                            { dst := some 12, op := Op.assign (Operand.tmp 154), g := none }]
                          { lo := 153, hi := 154, xs := [] } []))))))
              (AC.seq
                (AC.reg
                  [{ dst := some 165, op := Op.move (Operand.tmp 5), g := none },
                    { dst := some 2, op := Op.assign (Operand.tmp 165), g := none },
                    { dst := some 3, op := Op.assign (Operand.const (Value.bool true)), g := none }]
                  { lo := 165, hi := 165, xs := [] } [])
                AC.ret))))))

theorem e27 : slim (Try.f27.body.getD .skip) = c27 := by kernel_rfl
theorem b27 : Try.f27.body = some (Try.f27.body.getD .skip) := by kernel_rfl
theorem d27 : textOk Try.prog 166 (Try.f27.body.getD .skip) = true := by kernel_rfl
theorem r27 : Try.f27.results.toList = [ResultVar.tmp 2, ResultVar.tmp 3] := by kernel_rfl
theorem n27 : Try.f27.name ≠ "runtime.NumGoroutine" := by decide
end Go.Av
