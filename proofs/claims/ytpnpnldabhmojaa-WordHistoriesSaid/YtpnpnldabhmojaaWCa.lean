/- Part of a proof by symbolic walks on plain data. -/
import Derived.Test.YtpnpnldabhmojaaF8
import Derived.Test.YtpnpnldabhmojaaProg
set_option linter.unusedVariables false
set_option linter.unusedSimpArgs false
namespace Go.Av
open Go Go.RowKit Go.Proofs
def c7 : AC :=
  AC.seq
    (AC.reg [{ dst := some 6, op := Op.assign (Operand.const (Value.bool false)), g := none }]
      { lo := 1, hi := 0, xs := [] } [])
    (AC.seq
      (AC.seq
        (AC.reg
          [{ dst := some 8,
              op :=
                Op.call
                  { callee := Callee.value (Operand.func 11), args := #[], argTypes := #[] },
              g := none },
            { dst := some 9, op := Op.unOp UnOp.not 4 (Operand.tmp 8), g := none },
            { dst := some 10, op := Op.move (Operand.tmp 9), g := none },
            { dst := some 11, op := Op.move (Operand.tmp 0), g := some (10, false) },
            { dst := some 12,
              op :=
                Op.call
                  { callee := Callee.builtin Builtin.len, args := #[Operand.tmp 11],
                    argTypes := #[22] },
              g := some (10, false) },
            { dst := some 13,
              op := Op.binOp BinOp.gtr 3 (Operand.tmp 12) (Operand.const (Value.int IntKind.i64 20)) 3,
              g := some (10, false) },
            { dst := some 14, op := Op.pick (Operand.tmp 10) (Operand.const (Value.bool true)) (Operand.tmp 13),
              g := none },
            { dst := some 15, op := Op.move (Operand.tmp 14), g := none },
            { dst := some 16, op := Op.move (Operand.tmp 1), g := some (15, false) },
            { dst := some 17,
              op :=
                Op.call
                  { callee := Callee.builtin Builtin.len, args := #[Operand.tmp 16],
                    argTypes := #[22] },
              g := some (15, false) },
            { dst := some 18,
              op := Op.binOp BinOp.gtr 3 (Operand.tmp 17) (Operand.const (Value.int IntKind.i64 20)) 3,
              g := some (15, false) },
            { dst := some 19, op := Op.pick (Operand.tmp 15) (Operand.const (Value.bool true)) (Operand.tmp 18),
              g := none }]
          { lo := 8, hi := 18, xs := [] } [])
        (AC.cond (Operand.tmp 19)
          (AC.seq
            (AC.reg
              [{ dst := some 20,
                  op :=
                    Op.call
                      { callee := Callee.value (Operand.func 11), args := #[],
                        argTypes := #[] },
                  g := none },
                { dst := some 6, op := Op.assign (Operand.tmp 20), g := none }]
              { lo := 20, hi := 20, xs := [] } [])
            AC.ret)
          AC.skip))
      (AC.seq
        (AC.reg
          [{ dst := some 21, op := Op.buildSlice 22 0 #[], g := none },
            { dst := some 22, op := Op.move (Operand.tmp 0), g := none },
            { dst := some 23,
              op :=
                Op.call
                  { callee := Callee.builtin Builtin.append, args := #[Operand.tmp 21, Operand.tmp 22],
                    argTypes := #[22, 22] },
              g := none },
            { dst := some 24, op := Op.move (Operand.tmp 1), g := none },
            { dst := some 25,
              op :=
                Op.call
                  { callee := Callee.builtin Builtin.append, args := #[Operand.tmp 23, Operand.tmp 24],
                    argTypes := #[22, 22] },
              g := none },
            { dst := some 26, op := Op.move (Operand.tmp 2), g := none },
            { dst := some 27,
              op :=
                Op.call
                  { callee := Callee.value (Operand.func 25), args := #[Operand.tmp 25, Operand.tmp 26],
                    argTypes := #[22, 3] },
              g := none },
            { dst := some 7, op := Op.assign (Operand.tmp 27), g := none }]
          { lo := 21, hi := 27, xs := [] } [])
        (AC.seq
          (AC.reg
            [{ dst := some 28, op := Op.move (Operand.tmp 7), g := none },
              { dst := some 29, op := Op.buildSlice 29 0 #[], g := none },
              { dst := some 30, op := Op.move (Operand.tmp 0), g := none },
              { dst := some 31, op := Op.move (Operand.tmp 2), g := none },
              { dst := some 32,
                op :=
                  Op.call
                    { callee := Callee.value (Operand.func 25), args := #[Operand.tmp 30, Operand.tmp 31],
                      argTypes := #[22, 3] },
                g := none },
              { dst := some 33,
                op :=
                  Op.call
                    { callee := Callee.builtin Builtin.append, args := #[Operand.tmp 29, Operand.tmp 32],
                      argTypes := #[29, 29] },
                g := none },
              { dst := some 34, op := Op.move (Operand.tmp 1), g := none },
              { dst := some 35, op := Op.move (Operand.tmp 2), g := none },
              { dst := some 36,
                op :=
                  Op.call
                    { callee := Callee.value (Operand.func 25), args := #[Operand.tmp 34, Operand.tmp 35],
                      argTypes := #[22, 3] },
                g := none },
              { dst := some 37,
                op :=
                  Op.call
                    { callee := Callee.builtin Builtin.append, args := #[Operand.tmp 33, Operand.tmp 36],
                      argTypes := #[29, 29] },
                g := none },
              { dst := some 38,
                op :=
                  Op.call
                    { callee := Callee.value (Operand.func 19), args := #[Operand.tmp 28, Operand.tmp 37],
                      argTypes := #[29, 29] },
                g := none },
              { dst := some 6, op := Op.assign (Operand.tmp 38), g := none }]
            { lo := 28, hi := 38, xs := [] } [])
          AC.ret)))

theorem e7 : slim (Try.f7.body.getD .skip) = c7 := by kernel_rfl
theorem b7 : Try.f7.body = some (Try.f7.body.getD .skip) := by kernel_rfl
theorem d7 : textOk Try.prog 39 (Try.f7.body.getD .skip) = true := by kernel_rfl
theorem r7 : Try.f7.results.toList = [ResultVar.tmp 6] := by kernel_rfl
theorem n7 : Try.f7.name ≠ "runtime.NumGoroutine" := by decide

def c11 : AC :=
  AC.seq
    (AC.reg [{ dst := some 0, op := Op.assign (Operand.const (Value.bool false)), g := none }]
      { lo := 1, hi := 0, xs := [] } [])
    (AC.seq
      (AC.reg
        [{ dst := some 6,
            op :=
              Op.build 32
                #[(0, Operand.const (Value.int IntKind.i64 0)),
                      (1, Operand.const (Value.int IntKind.i64 1))],
            g := none },
          { dst := some 7,
            op :=
              Op.build 32
                #[(0, Operand.const (Value.int IntKind.i64 2)),
                      (1, Operand.const (Value.int IntKind.i64 3)),
                      (2, Operand.const (Value.int IntKind.i64 1))],
            g := none },
          { dst := some 1, op := Op.alloc 32, g := none }, { dst := some 2, op := Op.alloc 32, g := none },
          { dst := none, op := Op.store 32 (Operand.tmp 1) (Operand.tmp 6), g := none },
          { dst := none, op := Op.store 32 (Operand.tmp 2) (Operand.tmp 7), g := none }]
        { lo := 6, hi := 7, xs := [] } [])
      (AC.seq
        (AC.reg
          [{ dst := some 8, op := Op.load 32 (Operand.tmp 2), g := none },
            { dst := some 9, op := Op.load 32 (Operand.tmp 1), g := none },
            { dst := some 10, op := Op.buildSlice 22 2 #[(0, Operand.tmp 8), (1, Operand.tmp 9)],
              g := none },
            { dst := some 11,
              op :=
                Op.call
                  { callee := Callee.value (Operand.func 17), args := #[Operand.tmp 10],
                    argTypes := #[22] },
              g := none },
            { dst := some 3, op := Op.assign (Operand.tmp 11), g := none }]
          { lo := 8, hi := 11, xs := [] } [])
        (AC.seq
          (AC.reg
            [{ dst := some 13, op := Op.move (Operand.tmp 3), g := none },
              { dst := some 14,
                op :=
                  Op.call
                    { callee := Callee.value (Operand.func 12),
                      args := #[Operand.tmp 13, Operand.const (Value.int IntKind.i64 4)],
                      argTypes := #[22, 3] },
                g := none },
              { dst := some 15,
                op :=
                  Op.call
                    { callee := Callee.value (Operand.func 23), args := #[Operand.tmp 14],
                      argTypes := #[24] },
                g := none },
              { dst := some 12, op := Op.move (Operand.tmp 15), g := none },
              { dst := some 16, op := Op.extract (Operand.tmp 12) 0, g := none },
              { dst := some 17, op := Op.extract (Operand.tmp 12) 1, g := none },
              { dst := some 4, op := Op.assign (Operand.tmp 16), g := none },
              { dst := some 5, op := Op.assign (Operand.tmp 17), g := none }]
            { lo := 12, hi := 17, xs := [] } [])
          (AC.seq
            (AC.drw
              [{ o := { dst := some 18, op := Op.load 32 (Operand.tmp 1), g := none }, kn := [] },
                { o := { dst := some 19, op := Op.load 32 (Operand.tmp 2), g := none }, kn := [] },
                {
                  o :=
                    { dst := some 20,
                      op :=
                        Op.call
                          { callee := Callee.value (Operand.func 20),
                            args := #[Operand.tmp 18, Operand.tmp 19], argTypes := #[32, 32] },
                      g := none },
                  kn := [18, 19] },
                { o := { dst := some 21, op := Op.move (Operand.tmp 20), g := none }, kn := [20, 18, 19] },
                { o := { dst := some 22, op := Op.move (Operand.tmp 3), g := some (21, true) }, kn := [21, 20, 18, 19] },
                {
                  o :=
                    { dst := some 23,
                      op :=
                        Op.call
                          { callee := Callee.builtin Builtin.len, args := #[Operand.tmp 22],
                            argTypes := #[22] },
                      g := some (21, true) },
                  kn := [22, 21, 20, 18, 19] },
                {
                  o :=
                    { dst := some 24,
                      op := Op.binOp BinOp.eql 3 (Operand.tmp 23) (Operand.const (Value.int IntKind.i64 2)) 3,
                      g := some (21, true) },
                  kn := [23, 22, 21, 20, 18, 19] },
                {
                  o :=
                    { dst := some 25, op := Op.pick (Operand.tmp 21) (Operand.tmp 24) (Operand.const (Value.bool false)),
                      g := none },
                  kn := [24, 23, 22, 21, 20, 18, 19] },
                { o := { dst := some 26, op := Op.move (Operand.tmp 25), g := none },
                  kn := [25, 24, 23, 22, 21, 20, 18, 19] },
                { o := { dst := some 27, op := Op.move (Operand.tmp 3), g := some (26, true) },
                  kn := [26, 25, 24, 23, 22, 21, 20, 18, 19] },
                {
                  o :=
                    { dst := some 28,
                      op := Op.indexAddr 22 (Operand.tmp 27) (Operand.const (Value.int IntKind.i64 0)),
                      g := some (26, true) },
                  kn := [27, 26, 25, 24, 23, 22, 21, 20, 18, 19] },
                { o := { dst := some 29, op := Op.load 32 (Operand.tmp 28), g := some (26, true) },
                  kn := [28, 27, 26, 25, 24, 23, 22, 21, 20, 18, 19] },
                { o := { dst := some 30, op := Op.load 32 (Operand.tmp 1), g := some (26, true) },
                  kn := [26, 25, 24, 23, 22, 21, 20, 18, 19] },
                {
                  o :=
                    { dst := some 31, op := Op.binOp BinOp.eql 32 (Operand.tmp 29) (Operand.tmp 30) 32,
                      g := some (26, true) },
                  kn := [29, 28, 27, 30, 26, 25, 24, 23, 22, 21, 20, 18, 19] },
                {
                  o :=
                    { dst := some 32, op := Op.pick (Operand.tmp 26) (Operand.tmp 31) (Operand.const (Value.bool false)),
                      g := none },
                  kn := [31, 29, 28, 27, 30, 26, 25, 24, 23, 22, 21, 20, 18, 19] },
                { o := { dst := some 33, op := Op.move (Operand.tmp 32), g := none },
                  kn := [32, 31, 29, 28, 27, 30, 26, 25, 24, 23, 22, 21, 20, 18, 19] },
                { o := { dst := some 34, op := Op.move (Operand.tmp 5), g := some (33, true) },
                  kn := [33, 32, 31, 29, 28, 27, 30, 26, 25, 24, 23, 22, 21, 20, 18, 19] },
                {
                  o :=
                    { dst := some 35, op := Op.pick (Operand.tmp 33) (Operand.tmp 34) (Operand.const (Value.bool false)),
                      g := none },
                  kn := [34, 33, 32, 31, 29, 28, 27, 30, 26, 25, 24, 23, 22, 21, 20, 18, 19] },
                { o := { dst := some 36, op := Op.move (Operand.tmp 35), g := none },
                  kn := [35, 34, 33, 32, 31, 29, 28, 27, 30, 26, 25, 24, 23, 22, 21, 20, 18, 19] },
                { o := { dst := some 37, op := Op.move (Operand.tmp 4), g := some (36, true) },
                  kn := [36, 35, 34, 33, 32, 31, 29, 28, 27, 30, 26, 25, 24, 23, 22, 21, 20, 18, 19] },
                {
                  o :=
                    { dst := some 38,
                      op :=
                        Op.call
                          { callee := Callee.builtin Builtin.len, args := #[Operand.tmp 37],
                            argTypes := #[22] },
                      g := some (36, true) },
                  kn := [37, 36, 35, 34, 33, 32, 31, 29, 28, 27, 30, 26, 25, 24, 23, 22, 21, 20, 18, 19] },
                {
                  o :=
                    { dst := some 39,
                      op := Op.binOp BinOp.eql 3 (Operand.tmp 38) (Operand.const (Value.int IntKind.i64 2)) 3,
                      g := some (36, true) },
                  kn := [38, 37, 36, 35, 34, 33, 32, 31, 29, 28, 27, 30, 26, 25, 24, 23, 22, 21, 20, 18, 19] },
                {
                  o :=
                    { dst := some 40, op := Op.pick (Operand.tmp 36) (Operand.tmp 39) (Operand.const (Value.bool false)),
                      g := none },
                  kn := [39, 38, 37, 36, 35, 34, 33, 32, 31, 29, 28, 27, 30, 26, 25, 24, 23, 22, 21, 20, 18, 19] },
                { o := { dst := some 41, op := Op.move (Operand.tmp 40), g := none },
                  kn := [40, 39, 38, 37, 36, 35, 34, 33, 32, 31, 29, 28, 27, 30, 26, 25, 24, 23, 22, 21, 20, 18, 19] },
                { o := { dst := some 42, op := Op.move (Operand.tmp 3), g := some (41, true) },
                  kn :=
                    [41, 40, 39, 38, 37, 36, 35, 34, 33, 32, 31, 29, 28, 27, 30, 26, 25, 24, 23, 22, 21, 20, 18, 19] },
                { o := { dst := some 43, op := Op.load 32 (Operand.tmp 2), g := some (41, true) },
                  kn :=
                    [41, 40, 39, 38, 37, 36, 35, 34, 33, 32, 31, 29, 28, 27, 30, 26, 25, 24, 23, 22, 21, 20, 18, 19] },
                { o := { dst := some 44, op := Op.load 32 (Operand.tmp 1), g := some (41, true) },
                  kn :=
                    [41, 40, 39, 38, 37, 36, 35, 34, 33, 32, 31, 29, 28, 27, 30, 26, 25, 24, 23, 22, 21, 20, 18, 19] },
                {
                  o :=
                    { dst := some 45, op := Op.buildSlice 22 2 #[(0, Operand.tmp 43), (1, Operand.tmp 44)],
                      g := some (41, true) },
                  kn :=
                    [43, 44, 41, 40, 39, 38, 37, 36, 35, 34, 33, 32, 31, 29, 28, 27, 30, 26, 25, 24, 23, 22, 21, 20, 18,
                      19] },
                {
                  o :=
                    { dst := some 46,
                      op :=
                        Op.call
                          { callee := Callee.value (Operand.func 14),
                            args := #[Operand.tmp 42, Operand.tmp 45], argTypes := #[22, 22] },
                      g := some (41, true) },
                  kn :=
                    [42, 45, 43, 44, 41, 40, 39, 38, 37, 36, 35, 34, 33, 32, 31, 29, 28, 27, 30, 26, 25, 24, 23, 22, 21,
                      20, 18, 19] },
                {
                  o :=
                    { dst := some 47, op := Op.pick (Operand.tmp 41) (Operand.tmp 46) (Operand.const (Value.bool false)),
                      g := none },
                  kn :=
                    [46, 42, 45, 43, 44, 41, 40, 39, 38, 37, 36, 35, 34, 33, 32, 31, 29, 28, 27, 30, 26, 25, 24, 23, 22,
                      21, 20, 18, 19] },
                { o := { dst := some 48, op := Op.move (Operand.tmp 47), g := none },
                  kn :=
                    [47, 46, 42, 45, 43, 44, 41, 40, 39, 38, 37, 36, 35, 34, 33, 32, 31, 29, 28, 27, 30, 26, 25, 24, 23,
                      22, 21, 20, 18, 19] },
                { o := { dst := some 49, op := Op.move (Operand.tmp 3), g := some (48, true) },
                  kn :=
                    [48, 47, 46, 42, 45, 43, 44, 41, 40, 39, 38, 37, 36, 35, 34, 33, 32, 31, 29, 28, 27, 30, 26, 25, 24,
                      23, 22, 21, 20, 18, 19] },
                {
                  o :=
                    { dst := some 50,
                      op :=
                        Op.call
                          { callee := Callee.value (Operand.func 25),
                            args := #[Operand.tmp 49, Operand.const (Value.int IntKind.i64 2)],
                            argTypes := #[22, 3] },
                      g := some (48, true) },
                  kn :=
                    [49, 48, 47, 46, 42, 45, 43, 44, 41, 40, 39, 38, 37, 36, 35, 34, 33, 32, 31, 29, 28, 27, 30, 26, 25,
                      24, 23, 22, 21, 20, 18, 19] },
                {
                  o :=
                    { dst := some 51,
                      op :=
                        Op.call
                          { callee := Callee.builtin Builtin.len, args := #[Operand.tmp 50],
                            argTypes := #[29] },
                      g := some (48, true) },
                  kn :=
                    [50, 49, 48, 47, 46, 42, 45, 43, 44, 41, 40, 39, 38, 37, 36, 35, 34, 33, 32, 31, 29, 28, 27, 30, 26,
                      25, 24, 23, 22, 21, 20, 18, 19] },
                {
                  o :=
                    { dst := some 52,
                      op := Op.binOp BinOp.eql 3 (Operand.tmp 51) (Operand.const (Value.int IntKind.i64 1)) 3,
                      g := some (48, true) },
                  kn :=
                    [51, 50, 49, 48, 47, 46, 42, 45, 43, 44, 41, 40, 39, 38, 37, 36, 35, 34, 33, 32, 31, 29, 28, 27, 30,
                      26, 25, 24, 23, 22, 21, 20, 18, 19] },
                {
                  o :=
                    { dst := some 53, op := Op.pick (Operand.tmp 48) (Operand.tmp 52) (Operand.const (Value.bool false)),
                      g := none },
                  kn :=
                    [52, 51, 50, 49, 48, 47, 46, 42, 45, 43, 44, 41, 40, 39, 38, 37, 36, 35, 34, 33, 32, 31, 29, 28, 27,
                      30, 26, 25, 24, 23, 22, 21, 20, 18, 19] }]
              [{ o := { dst := some 0, op := Op.assign (Operand.tmp 53), g := none },
                  kn :=
                    [53, 52, 51, 50, 49, 48, 47, 46, 42, 45, 43, 44, 41, 40, 39, 38, 37, 36, 35, 34, 33, 32, 31, 29, 28,
                      27, 30, 26, 25, 24, 23, 22, 21, 20, 18, 19],
                  un := [] }]
              { lo := 18, hi := 53, xs := [] } { lo := 18, hi := 53, xs := [] } [])
            AC.ret))))

theorem e11 : slim (Try.f11.body.getD .skip) = c11 := by kernel_rfl
theorem b11 : Try.f11.body = some (Try.f11.body.getD .skip) := by kernel_rfl
theorem d11 : textOk Try.prog 54 (Try.f11.body.getD .skip) = true := by kernel_rfl
theorem r11 : Try.f11.results.toList = [ResultVar.tmp 0] := by kernel_rfl
theorem n11 : Try.f11.name ≠ "runtime.NumGoroutine" := by decide

def c12 : AC :=
  AC.seq
    (AC.reg [{ dst := some 4, op := Op.assign (Operand.const (Value.slice none 0 0)), g := none }]
      { lo := 1, hi := 0, xs := [] } [])
    (AC.seq
      (AC.seq
        (AC.reg
          [{ dst := some 7, op := Op.move (Operand.tmp 1), g := none },
            { dst := some 8,
              op := Op.binOp BinOp.lss 3 (Operand.tmp 7) (Operand.const (Value.int IntKind.i64 0)) 3,
              g := none },
            { dst := some 9, op := Op.move (Operand.tmp 8), g := none },
            { dst := some 10, op := Op.move (Operand.tmp 1), g := some (9, false) },
            { dst := some 11,
              op := Op.binOp BinOp.gtr 3 (Operand.tmp 10) (Operand.const (Value.int IntKind.i64 6)) 3,
              g := some (9, false) },
            { dst := some 12, op := Op.pick (Operand.tmp 9) (Operand.const (Value.bool true)) (Operand.tmp 11),
              g := none }]
          { lo := 7, hi := 11, xs := [] } [])
        (AC.cond (Operand.tmp 12)
          (AC.seq
            (AC.reg [{ dst := some 4, op := Op.assign (Operand.const (Value.slice none 0 0)), g := none }]
              { lo := 1, hi := 0, xs := [] } [])
            AC.ret)
          AC.skip))
      (AC.seq
        (AC.reg
          [{ dst := some 13, op := Op.move (Operand.tmp 1), g := none },
            { dst := some 14, op := Op.makeSlice 24 (Operand.tmp 13) (Operand.tmp 13), g := none },
            { dst := some 5, op := Op.assign (Operand.tmp 14), g := none }]
          { lo := 13, hi := 14, xs := [] } [])
        (AC.seq
          (AC.seq
            (AC.reg
              [{ dst := some 15, op := Op.move (Operand.tmp 1), g := none },
                { dst := some 16, op := Op.move (Operand.const (Value.int IntKind.i64 0)), g := none }]
              { lo := 1, hi := 0, xs := [] } [])
            (AC.block 0
              (AC.loop
                (AC.seq
                  (AC.reg [{ dst := some 17, op := Op.binOp BinOp.lss 3 (Operand.tmp 16) (Operand.tmp 15) 3, g := none }]
                    { lo := 1, hi := 0, xs := [] } [])
                  (AC.seq (AC.cond (Operand.tmp 17) AC.skip (AC.exit 0))
                    (AC.seq
                      (AC.block 1
                        (AC.seq
                          (AC.reg
                            [{ dst := some 18, op := Op.move (Operand.tmp 16), g := none },
                              { dst := some 6, op := Op.assign (Operand.tmp 18), g := none }]
                            { lo := 18, hi := 18, xs := [] } [])
                          (AC.reg
                            [{ dst := some 19, op := Op.move (Operand.tmp 5), g := none },
                              { dst := some 20, op := Op.move (Operand.tmp 6), g := none },
                              { dst := some 21, op := Op.move (Operand.tmp 0), g := none },
                              { dst := some 22, op := Op.move (Operand.tmp 6), g := none },
                              { dst := some 23,
                                op :=
                                  Op.call
                                    { callee := Callee.value (Operand.func 25),
                                      args := #[Operand.tmp 21, Operand.tmp 22],
                                      argTypes := #[22, 3] },
                                g := none },
                              { dst := some 24, op := Op.indexAddr 24 (Operand.tmp 19) (Operand.tmp 20), g := none },
                              { dst := none, op := Op.store 29 (Operand.tmp 24) (Operand.tmp 23), g := none }]
                            { lo := 19, hi := 24, xs := [] } [])))
                      (AC.reg
                        [{ dst := some 25,
                            op :=
                              Op.binOp BinOp.add 3 (Operand.tmp 16) (Operand.const (Value.int IntKind.i64 1))
                                3,
                            g := none },
                          { dst := some 16, op := Op.move (Operand.tmp 25), g := none }]
                        { lo := 25, hi := 25, xs := [] } [])))))))
          (AC.seq
            (AC.reg
              [{ dst := some 26, op := Op.move (Operand.tmp 5), g := none },
                { dst := some 4, op := Op.assign (Operand.tmp 26), g := none }]
              { lo := 26, hi := 26, xs := [] } [])
            AC.ret))))

theorem e12 : slim (Try.f12.body.getD .skip) = c12 := by kernel_rfl
theorem b12 : Try.f12.body = some (Try.f12.body.getD .skip) := by kernel_rfl
theorem d12 : textOk Try.prog 27 (Try.f12.body.getD .skip) = true := by kernel_rfl
theorem r12 : Try.f12.results.toList = [ResultVar.tmp 4] := by kernel_rfl
theorem n12 : Try.f12.name ≠ "runtime.NumGoroutine" := by decide

def c13 : AC :=
  AC.seq
    (AC.reg [{ dst := some 4, op := Op.assign (Operand.const (Value.slice none 0 0)), g := none }]
      { lo := 1, hi := 0, xs := [] } [])
    (AC.seq
      (AC.reg [{ dst := some 5, op := Op.assign (Operand.const (Value.slice none 0 0)), g := none }]
        { lo := 1, hi := 0, xs := [] } [])
      (AC.seq
        (AC.seq
          (AC.reg [{ dst := some 6, op := Op.assign (Operand.const (Value.int IntKind.i64 0)), g := none }]
            { lo := 1, hi := 0, xs := [] } [])
          (AC.block 0
            (AC.loop
              (AC.seq
                (AC.seq
                  (AC.reg
                    [{ dst := some 7, op := Op.move (Operand.tmp 6), g := none },
                      { dst := some 8, op := Op.move (Operand.tmp 1), g := none },
                      { dst := some 9, op := Op.binOp BinOp.lss 3 (Operand.tmp 7) (Operand.tmp 8) 3, g := none },
                      { dst := some 10, op := Op.move (Operand.tmp 9), g := none },
                      { dst := some 11, op := Op.move (Operand.tmp 1), g := some (10, true) },
                      { dst := some 12,
                        op :=
                          Op.binOp BinOp.leq 3 (Operand.tmp 11) (Operand.const (Value.int IntKind.i64 6)) 3,
                        g := some (10, true) },
                      { dst := some 13,
                        op := Op.pick (Operand.tmp 10) (Operand.tmp 12) (Operand.const (Value.bool false)), g := none }]
                    { lo := 7, hi := 12, xs := [] } [])
                  (AC.cond (Operand.tmp 13) AC.skip (AC.exit 0)))
                (AC.seq
                  (AC.block 1
                    (AC.reg
                      [{ dst := some 16, op := Op.move (Operand.tmp 5), g := none },
                        { dst := some 17, op := Op.move (Operand.tmp 0), g := none },
                        { dst := some 18, op := Op.move (Operand.tmp 6), g := none },
                        { dst := some 19,
                          op :=
                            Op.call
                              { callee := Callee.value (Operand.func 30),
                                args := #[Operand.tmp 17, Operand.tmp 18],
                                argTypes := #[22, 3] },
                          g := none },
                        { dst := some 20, op := Op.buildSlice 24 1 #[(0, Operand.tmp 19)], g := none },
                        { dst := some 21,
                          op :=
                            Op.call
                              { callee := Callee.builtin Builtin.append,
                                args := #[Operand.tmp 16, Operand.tmp 20],
                                argTypes := #[24, 24] },
                          g := none },
                        { dst := some 5, op := Op.assign (Operand.tmp 21), g := none }]
                      { lo := 16, hi := 21, xs := [] } []))
                  (AC.reg
                    [{ dst := some 14, op := Op.move (Operand.tmp 6), g := none },
                      { dst := some 15,
                        op :=
                          Op.binOp BinOp.add 3 (Operand.tmp 14) (Operand.const (Value.int IntKind.i64 1)) 3,
                        g := none },
                      { dst := some 6, op := Op.assign (Operand.tmp 15), g := none }]
                    { lo := 14, hi := 15, xs := [] } []))))))
        (AC.seq
          (AC.reg
            [{ dst := some 22, op := Op.move (Operand.tmp 5), g := none },
              { dst := some 4, op := Op.assign (Operand.tmp 22), g := none }]
            { lo := 22, hi := 22, xs := [] } [])
          AC.ret)))

theorem e13 : slim (Try.f13.body.getD .skip) = c13 := by kernel_rfl
theorem b13 : Try.f13.body = some (Try.f13.body.getD .skip) := by kernel_rfl
theorem d13 : textOk Try.prog 23 (Try.f13.body.getD .skip) = true := by kernel_rfl
theorem r13 : Try.f13.results.toList = [ResultVar.tmp 4] := by kernel_rfl
theorem n13 : Try.f13.name ≠ "runtime.NumGoroutine" := by decide

def c14 : AC :=
  AC.seq
    (AC.reg [{ dst := some 4, op := Op.assign (Operand.const (Value.bool false)), g := none }]
      { lo := 1, hi := 0, xs := [] } [])
    (AC.seq
      (AC.reg
        [{ dst := some 5, op := Op.move (Operand.tmp 0), g := none },
          { dst := some 6,
            op :=
              Op.call
                { callee := Callee.value (Operand.func 17), args := #[Operand.tmp 5],
                  argTypes := #[22] },
            g := none },
          { dst := some 7, op := Op.move (Operand.tmp 1), g := none },
          { dst := some 8,
            op :=
              Op.call
                { callee := Callee.value (Operand.func 17), args := #[Operand.tmp 7],
                  argTypes := #[22] },
            g := none },
          { dst := some 9,
            op :=
              Op.call
                { callee := Callee.value (Operand.func 31), args := #[Operand.tmp 6, Operand.tmp 8],
                  argTypes := #[22, 22] },
            g := none },
          { dst := some 4, op := Op.assign (Operand.tmp 9), g := none }]
        { lo := 5, hi := 9, xs := [] } [])
      AC.ret)

theorem e14 : slim (Try.f14.body.getD .skip) = c14 := by kernel_rfl
theorem b14 : Try.f14.body = some (Try.f14.body.getD .skip) := by kernel_rfl
theorem d14 : textOk Try.prog 10 (Try.f14.body.getD .skip) = true := by kernel_rfl
theorem r14 : Try.f14.results.toList = [ResultVar.tmp 4] := by kernel_rfl
theorem n14 : Try.f14.name ≠ "runtime.NumGoroutine" := by decide

def c16 : AC :=
  AC.seq
    (AC.reg [{ dst := some 4, op := Op.assign (Operand.const (Value.bool false)), g := none }]
      { lo := 1, hi := 0, xs := [] } [])
    (AC.seq
      (AC.seq
        (AC.reg
          [{ dst := some 6, op := Op.move (Operand.tmp 0), g := none },
            { dst := some 7,
              op :=
                Op.call
                  { callee := Callee.builtin Builtin.len, args := #[Operand.tmp 6],
                    argTypes := #[22] },
              g := none },
            { dst := some 8, op := Op.move (Operand.tmp 1), g := none },
            { dst := some 9,
              op :=
                Op.call
                  { callee := Callee.builtin Builtin.len, args := #[Operand.tmp 8],
                    argTypes := #[22] },
              g := none },
            { dst := some 10, op := Op.binOp BinOp.neq 3 (Operand.tmp 7) (Operand.tmp 9) 3, g := none }]
          { lo := 6, hi := 9, xs := [] } [])
        (AC.cond (Operand.tmp 10)
          (AC.seq
            (AC.reg [{ dst := some 4, op := Op.assign (Operand.const (Value.bool false)), g := none }]
              { lo := 1, hi := 0, xs := [] } [])
            AC.ret)
          AC.skip))
      (AC.seq
        (AC.seq
          (AC.reg [{ dst := some 5, op := Op.assign (Operand.const (Value.int IntKind.i64 0)), g := none }]
            { lo := 1, hi := 0, xs := [] } [])
          (AC.block 0
            (AC.loop
              (AC.seq
                (AC.seq
                  (AC.reg
                    [{ dst := some 11, op := Op.move (Operand.tmp 5), g := none },
                      { dst := some 12, op := Op.move (Operand.tmp 0), g := none },
                      { dst := some 13,
                        op :=
                          Op.call
                            { callee := Callee.builtin Builtin.len, args := #[Operand.tmp 12],
                              argTypes := #[22] },
                        g := none },
                      { dst := some 14, op := Op.binOp BinOp.lss 3 (Operand.tmp 11) (Operand.tmp 13) 3, g := none }]
                    { lo := 11, hi := 13, xs := [] } [])
                  (AC.cond (Operand.tmp 14) AC.skip (AC.exit 0)))
                (AC.seq
                  (AC.block 1
                    (AC.seq
                      (AC.drw
                        [{ o := { dst := some 17, op := Op.move (Operand.tmp 0), g := none }, kn := [] },
                          { o := { dst := some 18, op := Op.move (Operand.tmp 5), g := none }, kn := [] },
                          { o := { dst := some 19, op := Op.indexAddr 22 (Operand.tmp 17) (Operand.tmp 18), g := none },
                            kn := [17, 18] },
                          { o := { dst := some 20, op := Op.load 32 (Operand.tmp 19), g := none }, kn := [19, 17, 18] },
                          { o := { dst := some 21, op := Op.move (Operand.tmp 1), g := none }, kn := [] },
                          { o := { dst := some 22, op := Op.move (Operand.tmp 5), g := none }, kn := [] },
                          { o := { dst := some 23, op := Op.indexAddr 22 (Operand.tmp 21) (Operand.tmp 22), g := none },
                            kn := [21, 22] },
                          { o := { dst := some 24, op := Op.load 32 (Operand.tmp 23), g := none }, kn := [23, 21, 22] },
                          {
                            o :=
                              { dst := some 25, op := Op.binOp BinOp.neq 32 (Operand.tmp 20) (Operand.tmp 24) 32,
                                g := none },
                            kn := [20, 19, 17, 18, 24, 23, 21, 22] }]
                        [] { lo := 17, hi := 25, xs := [] } { lo := 17, hi := 24, xs := [] } [])
                      (AC.cond (Operand.tmp 25)
                        (AC.seq
                          (AC.reg [{ dst := some 4, op := Op.assign (Operand.const (Value.bool false)), g := none }]
                            { lo := 1, hi := 0, xs := [] } [])
                          AC.ret)
                        AC.skip)))
                  (AC.reg
                    [{ dst := some 15, op := Op.move (Operand.tmp 5), g := none },
                      { dst := some 16,
                        op :=
                          Op.binOp BinOp.add 3 (Operand.tmp 15) (Operand.const (Value.int IntKind.i64 1)) 3,
                        g := none },
                      { dst := some 5, op := Op.assign (Operand.tmp 16), g := none }]
                    { lo := 15, hi := 16, xs := [] } []))))))
        (AC.seq
          (AC.reg [{ dst := some 4, op := Op.assign (Operand.const (Value.bool true)), g := none }]
            { lo := 1, hi := 0, xs := [] } [])
          AC.ret)))

theorem e16 : slim (Try.f16.body.getD .skip) = c16 := by kernel_rfl
theorem b16 : Try.f16.body = some (Try.f16.body.getD .skip) := by kernel_rfl
theorem d16 : textOk Try.prog 26 (Try.f16.body.getD .skip) = true := by kernel_rfl
theorem r16 : Try.f16.results.toList = [ResultVar.tmp 4] := by kernel_rfl
theorem n16 : Try.f16.name ≠ "runtime.NumGoroutine" := by decide

def c17 : AC :=
  AC.seq
    (AC.reg [{ dst := some 2, op := Op.assign (Operand.const (Value.slice none 0 0)), g := none }]
      { lo := 1, hi := 0, xs := [] } [])
    (AC.seq
      (AC.reg
        [{ dst := some 10, op := Op.move (Operand.tmp 0), g := none },
          { dst := some 11,
            op :=
              Op.call
                { callee := Callee.value (Operand.func 32), args := #[Operand.tmp 10],
                  argTypes := #[22] },
            g := none },
          { dst := some 3, op := Op.assign (Operand.tmp 11), g := none }]
        { lo := 10, hi := 11, xs := [] } [])
      (AC.seq
        (AC.reg [{ dst := some 4, op := Op.assign (Operand.const (Value.slice none 0 0)), g := none }]
          { lo := 1, hi := 0, xs := [] } [])
        (AC.seq
          (AC.block 0
            (AC.loop
              (AC.seq
                (AC.seq
                  (AC.reg
                    [{ dst := some 12, op := Op.move (Operand.tmp 3), g := none },
                      { dst := some 13,
                        op :=
                          Op.call
                            { callee := Callee.builtin Builtin.len, args := #[Operand.tmp 12],
                              argTypes := #[22] },
                        g := none },
                      { dst := some 14,
                        op :=
                          Op.binOp BinOp.gtr 3 (Operand.tmp 13) (Operand.const (Value.int IntKind.i64 0)) 3,
                        g := none }]
                    { lo := 12, hi := 13, xs := [] } [])
                  (AC.cond (Operand.tmp 14) AC.skip (AC.exit 0)))
                (AC.block 1
                  (AC.scp
                    (AC.seq
                      (AC.reg
                        [{ dst := some 5, op := Op.assign (Operand.const (Value.int IntKind.i64 0)),
                            g := none }]
                        { lo := 1, hi := 0, xs := [] } [])
                      (AC.seq AC.skip
                        (AC.seq
                          (AC.seq
                            (AC.reg
                              [{ dst := some 15, op := Op.move (Operand.tmp 3), g := none },
                                { dst := some 16,
                                  op :=
                                    Op.call
                                      { callee := Callee.builtin Builtin.len, args := #[Operand.tmp 15],
                                        argTypes := #[22] },
                                  g := none },
                                { dst := some 17, op := Op.move (Operand.const (Value.int IntKind.i64 0)),
                                  g := none }]
                              { lo := 1, hi := 0, xs := [] } [])
                            (AC.block 2
                              (AC.loop
                                (AC.seq
                                  (AC.reg
                                    [{ dst := some 18, op := Op.binOp BinOp.lss 3 (Operand.tmp 17) (Operand.tmp 16) 3,
                                        g := none }]
                                    { lo := 1, hi := 0, xs := [] } [])
                                  (AC.seq (AC.cond (Operand.tmp 18) AC.skip (AC.exit 2))
                                    (AC.seq
                                      (AC.block 3
                                        (AC.seq
                                          (AC.reg
                                            [{ dst := some 19, op := Op.move (Operand.tmp 17), g := none },
                                              { dst := some 20, op := Op.indexAddr 22 (Operand.tmp 15) (Operand.tmp 17),
                                                g := none },
                                              { dst := some 21, op := Op.load 32 (Operand.tmp 20), g := none },
                                              { dst := some 7, op := Op.alloc 32, g := none },
                                              { dst := some 6, op := Op.assign (Operand.tmp 19), g := none },
                                              { dst := none, op := Op.store 32 (Operand.tmp 7) (Operand.tmp 21),
                                                g := none }]
                                            { lo := 19, hi := 21, xs := [] } [])
                                          (AC.seq
                                            (AC.seq
                                              (AC.reg
                                                [{ dst := some 22, op := Op.move (Operand.tmp 3), g := none },
                                                  { dst := some 23, op := Op.move (Operand.tmp 6), g := none },
                                                  { dst := some 24,
                                                    op := Op.slice 22 (Operand.tmp 22) none (some (Operand.tmp 23)) none,
                                                    g := none },
                                                  { dst := some 25,
                                                    op :=
                                                      Op.call
                                                        { callee := Callee.builtin Builtin.len,
                                                          args := #[Operand.tmp 24],
                                                          argTypes := #[22] },
                                                    g := none },
                                                  { dst := some 26,
                                                    op := Op.move (Operand.const (Value.int IntKind.i64 0)),
                                                    g := none }]
                                                { lo := 22, hi := 23, xs := [] } [])
                                              (AC.block 4
                                                (AC.loop
                                                  (AC.seq
                                                    (AC.reg
                                                      [{ dst := some 27,
                                                          op := Op.binOp BinOp.lss 3 (Operand.tmp 26) (Operand.tmp 25) 3,
                                                          g := none }]
                                                      { lo := 1, hi := 0, xs := [] } [])
                                                    (AC.seq (AC.cond (Operand.tmp 27) AC.skip (AC.exit 4))
                                                      (AC.seq
                                                        (AC.block 5
                                                          (AC.seq
                                                            (AC.reg
                                                              [{ dst := some 28,
                                                                  op := Op.indexAddr 22 (Operand.tmp 24) (Operand.tmp 26),
                                                                  g := none },
                                                                { dst := some 29, op := Op.load 32 (Operand.tmp 28),
                                                                  g := none },
                                                                { dst := some 9, op := Op.alloc 32, g := none },
                                                                { dst := none,
                                                                  op := Op.store 32 (Operand.tmp 9) (Operand.tmp 29),
                                                                  g := none }]
                                                              { lo := 28, hi := 29, xs := [] } [])
                                                            (AC.seq
                                                              (AC.reg
                                                                [{ dst := some 30, op := Op.load 32 (Operand.tmp 7),
                                                                    g := none },
                                                                  { dst := some 31, op := Op.load 32 (Operand.tmp 9),
                                                                    g := none },
                                                                  { dst := some 32,
                                                                    op :=
                                                                      Op.call
                                                                        { callee := Callee.value (Operand.func 20),
                                                                          args :=
                                                                            #[Operand.tmp 30, Operand.tmp 31],
                                                                          argTypes := #[32, 32] },
                                                                    g := none },
                                                                  { dst := some 33,
                                                                    op := Op.unOp UnOp.not 4 (Operand.tmp 32),
                                                                    g := none }]
                                                                { lo := 30, hi := 32, xs := [] } [])
                                                              (AC.cond (Operand.tmp 33) (AC.exit 3) AC.skip))))
                                                        (AC.reg
                                                          [{ dst := some 34,
                                                              op :=
                                                                Op.binOp BinOp.add 3 (Operand.tmp 26)
                                                                  (Operand.const (Value.int IntKind.i64 1)) 3,
                                                              g := none },
                                                            { dst := some 26, op := Op.move (Operand.tmp 34), g := none }]
                                                          { lo := 34, hi := 34, xs := [] } [])))))))
                                            (AC.seq
                                              (AC.drw
                                                [{ o := { dst := some 35, op := Op.load 32 (Operand.tmp 7), g := none },
                                                    kn := [] },
                                                  { o := { dst := some 36, op := Op.move (Operand.tmp 3), g := none },
                                                    kn := [] },
                                                  { o := { dst := some 37, op := Op.move (Operand.tmp 5), g := none },
                                                    kn := [] },
                                                  {
                                                    o :=
                                                      { dst := some 38,
                                                        op := Op.indexAddr 22 (Operand.tmp 36) (Operand.tmp 37),
                                                        g := none },
                                                    kn := [36, 37] },
                                                  { o := { dst := some 39, op := Op.load 32 (Operand.tmp 38), g := none },
                                                    kn := [38, 36, 37] },
                                                  {
                                                    o :=
                                                      { dst := some 40,
                                                        op :=
                                                          Op.call
                                                            { callee := Callee.value (Operand.func 33),
                                                              args := #[Operand.tmp 35, Operand.tmp 39],
                                                              argTypes := #[32, 32] },
                                                        g := none },
                                                    kn := [35, 39, 38, 36, 37] },
                                                  {
                                                    o :=
                                                      { dst := some 41,
                                                        op :=
                                                          Op.binOp BinOp.lss 3 (Operand.tmp 40)
                                                            (Operand.const (Value.int IntKind.i64 0)) 3,
                                                        g := none },
                                                    kn := [40, 35, 39, 38, 36, 37] }]
                                                [] { lo := 35, hi := 41, xs := [] } { lo := 35, hi := 40, xs := [] } [])
                                              (AC.cond (Operand.tmp 41)
                                                (AC.reg
                                                  [{ dst := some 42, op := Op.move (Operand.tmp 6), g := none },
                                                    { dst := some 5, op := Op.assign (Operand.tmp 42), g := none }]
                                                  { lo := 42, hi := 42, xs := [] } [])
                                                AC.skip)))))
                                      (AC.reg
                                        [{ dst := some 43,
                                            op :=
                                              Op.binOp BinOp.add 3 (Operand.tmp 17)
                                                (Operand.const (Value.int IntKind.i64 1)) 3,
                                            g := none },
                                          { dst := some 17, op := Op.move (Operand.tmp 43), g := none }]
                                        { lo := 43, hi := 43, xs := [] } [])))))))
                          (AC.seq
                            (AC.reg
                              [{ dst := some 44, op := Op.move (Operand.tmp 4), g := none },
                                { dst := some 45, op := Op.move (Operand.tmp 3), g := none },
                                { dst := some 46, op := Op.move (Operand.tmp 5), g := none },
                                { dst := some 47, op := Op.indexAddr 22 (Operand.tmp 45) (Operand.tmp 46), g := none },
                                { dst := some 48, op := Op.load 32 (Operand.tmp 47), g := none },
                                { dst := some 49, op := Op.buildSlice 22 1 #[(0, Operand.tmp 48)],
                                  g := none },
                                { dst := some 50,
                                  op :=
                                    Op.call
                                      { callee := Callee.builtin Builtin.append,
                                        args := #[Operand.tmp 44, Operand.tmp 49],
                                        argTypes := #[22, 22] },
                                  g := none },
                                { dst := some 4, op := Op.assign (Operand.tmp 50), g := none }]
                              { lo := 44, hi := 50, xs := [] } [])
                            (AC.reg
                              [{ dst := some 51, op := Op.move (Operand.tmp 3), g := none },
                                { dst := some 52, op := Op.move (Operand.tmp 5), g := none },
                                { dst := some 53, op := Op.move (Operand.tmp 5), g := none },
                                { dst := some 54,
                                  op :=
                                    Op.binOp BinOp.add 3 (Operand.tmp 53)
                                      (Operand.const (Value.int IntKind.i64 1)) 3,
                                  g := none },
                                { dst := some 55,
                                  op :=
                                    Op.call
                                      { callee := Callee.value (Operand.func 34),
                                        args := #[Operand.tmp 51, Operand.tmp 52, Operand.tmp 54],
                                        argTypes := #[22, 3, 3] },
                                  g := none },
                                { dst := some 3, op := Op.assign (Operand.tmp 55), g := none }]
                              { lo := 51, hi := 55, xs := [] } []))))))))))
          (AC.seq
            (AC.reg
              [{ dst := some 56, op := Op.move (Operand.tmp 4), g := none },
                { dst := some 2, op := Op.assign (Operand.tmp 56), g := none }]
              { lo := 56, hi := 56, xs := [] } [])
            AC.ret))))

theorem e17 : slim (Try.f17.body.getD .skip) = c17 := by kernel_rfl
theorem b17 : Try.f17.body = some (Try.f17.body.getD .skip) := by kernel_rfl
theorem d17 : textOk Try.prog 57 (Try.f17.body.getD .skip) = true := by kernel_rfl
theorem r17 : Try.f17.results.toList = [ResultVar.tmp 2] := by kernel_rfl
theorem n17 : Try.f17.name ≠ "runtime.NumGoroutine" := by decide

def c19 : AC :=
  AC.seq
    (AC.reg [{ dst := some 4, op := Op.assign (Operand.const (Value.bool false)), g := none }]
      { lo := 1, hi := 0, xs := [] } [])
    (AC.seq
      (AC.seq
        (AC.reg
          [{ dst := some 6, op := Op.move (Operand.tmp 0), g := none },
            { dst := some 7,
              op :=
                Op.call
                  { callee := Callee.builtin Builtin.len, args := #[Operand.tmp 6],
                    argTypes := #[29] },
              g := none },
            { dst := some 8, op := Op.move (Operand.tmp 1), g := none },
            { dst := some 9,
              op :=
                Op.call
                  { callee := Callee.builtin Builtin.len, args := #[Operand.tmp 8],
                    argTypes := #[29] },
              g := none },
            { dst := some 10, op := Op.binOp BinOp.neq 3 (Operand.tmp 7) (Operand.tmp 9) 3, g := none }]
          { lo := 6, hi := 9, xs := [] } [])
        (AC.cond (Operand.tmp 10)
          (AC.seq
            (AC.reg [{ dst := some 4, op := Op.assign (Operand.const (Value.bool false)), g := none }]
              { lo := 1, hi := 0, xs := [] } [])
            AC.ret)
          AC.skip))
      (AC.seq
        (AC.seq
          (AC.reg [{ dst := some 5, op := Op.assign (Operand.const (Value.int IntKind.i64 0)), g := none }]
            { lo := 1, hi := 0, xs := [] } [])
          (AC.block 0
            (AC.loop
              (AC.seq
                (AC.seq
                  (AC.reg
                    [{ dst := some 11, op := Op.move (Operand.tmp 5), g := none },
                      { dst := some 12, op := Op.move (Operand.tmp 0), g := none },
                      { dst := some 13,
                        op :=
                          Op.call
                            { callee := Callee.builtin Builtin.len, args := #[Operand.tmp 12],
                              argTypes := #[29] },
                        g := none },
                      { dst := some 14, op := Op.binOp BinOp.lss 3 (Operand.tmp 11) (Operand.tmp 13) 3, g := none }]
                    { lo := 11, hi := 13, xs := [] } [])
                  (AC.cond (Operand.tmp 14) AC.skip (AC.exit 0)))
                (AC.seq
                  (AC.block 1
                    (AC.seq
                      (AC.drw
                        [{ o := { dst := some 17, op := Op.move (Operand.tmp 0), g := none }, kn := [] },
                          { o := { dst := some 18, op := Op.move (Operand.tmp 5), g := none }, kn := [] },
                          { o := { dst := some 19, op := Op.indexAddr 29 (Operand.tmp 17) (Operand.tmp 18), g := none },
                            kn := [17, 18] },
                          { o := { dst := some 20, op := Op.fieldAddr 44 (Operand.tmp 19) 0, g := none },
                            kn := [19, 17, 18] },
                          { o := { dst := some 21, op := Op.load 3 (Operand.tmp 20), g := none },
                            kn := [20, 19, 17, 18] },
                          { o := { dst := some 22, op := Op.move (Operand.tmp 1), g := none }, kn := [] },
                          { o := { dst := some 23, op := Op.move (Operand.tmp 5), g := none }, kn := [] },
                          { o := { dst := some 24, op := Op.indexAddr 29 (Operand.tmp 22) (Operand.tmp 23), g := none },
                            kn := [22, 23] },
                          { o := { dst := some 25, op := Op.fieldAddr 44 (Operand.tmp 24) 0, g := none },
                            kn := [24, 22, 23] },
                          { o := { dst := some 26, op := Op.load 3 (Operand.tmp 25), g := none },
                            kn := [25, 24, 22, 23] },
                          {
                            o :=
                              { dst := some 27, op := Op.binOp BinOp.neq 3 (Operand.tmp 21) (Operand.tmp 26) 3,
                                g := none },
                            kn := [21, 20, 19, 17, 18, 26, 25, 24, 22, 23] },
                          { o := { dst := some 28, op := Op.move (Operand.tmp 27), g := none },
                            kn := [27, 21, 20, 19, 17, 18, 26, 25, 24, 22, 23] },
                          { o := { dst := some 29, op := Op.move (Operand.tmp 0), g := some (28, false) },
                            kn := [28, 27, 21, 20, 19, 17, 18, 26, 25, 24, 22, 23] },
                          { o := { dst := some 30, op := Op.move (Operand.tmp 5), g := some (28, false) },
                            kn := [28, 27, 21, 20, 19, 17, 18, 26, 25, 24, 22, 23] },
                          {
                            o :=
                              { dst := some 31, op := Op.indexAddr 29 (Operand.tmp 29) (Operand.tmp 30),
                                g := some (28, false) },
                            kn := [29, 30, 28, 27, 21, 20, 19, 17, 18, 26, 25, 24, 22, 23] },
                          { o := { dst := some 32, op := Op.fieldAddr 44 (Operand.tmp 31) 1, g := some (28, false) },
                            kn := [31, 29, 30, 28, 27, 21, 20, 19, 17, 18, 26, 25, 24, 22, 23] },
                          { o := { dst := some 33, op := Op.load 4 (Operand.tmp 32), g := some (28, false) },
                            kn := [32, 31, 29, 30, 28, 27, 21, 20, 19, 17, 18, 26, 25, 24, 22, 23] },
                          { o := { dst := some 34, op := Op.move (Operand.tmp 1), g := some (28, false) },
                            kn := [28, 27, 21, 20, 19, 17, 18, 26, 25, 24, 22, 23] },
                          { o := { dst := some 35, op := Op.move (Operand.tmp 5), g := some (28, false) },
                            kn := [28, 27, 21, 20, 19, 17, 18, 26, 25, 24, 22, 23] },
                          {
                            o :=
                              { dst := some 36, op := Op.indexAddr 29 (Operand.tmp 34) (Operand.tmp 35),
                                g := some (28, false) },
                            kn := [34, 35, 28, 27, 21, 20, 19, 17, 18, 26, 25, 24, 22, 23] },
                          { o := { dst := some 37, op := Op.fieldAddr 44 (Operand.tmp 36) 1, g := some (28, false) },
                            kn := [36, 34, 35, 28, 27, 21, 20, 19, 17, 18, 26, 25, 24, 22, 23] },
                          { o := { dst := some 38, op := Op.load 4 (Operand.tmp 37), g := some (28, false) },
                            kn := [37, 36, 34, 35, 28, 27, 21, 20, 19, 17, 18, 26, 25, 24, 22, 23] },
                          {
                            o :=
                              { dst := some 39, op := Op.binOp BinOp.neq 4 (Operand.tmp 33) (Operand.tmp 38) 4,
                                g := some (28, false) },
                            kn :=
                              [33, 32, 31, 29, 30, 38, 37, 36, 34, 35, 28, 27, 21, 20, 19, 17, 18, 26, 25, 24, 22, 23] },
                          {
                            o :=
                              { dst := some 40,
                                op := Op.pick (Operand.tmp 28) (Operand.const (Value.bool true)) (Operand.tmp 39),
                                g := none },
                            kn :=
                              [39, 33, 32, 31, 29, 30, 38, 37, 36, 34, 35, 28, 27, 21, 20, 19, 17, 18, 26, 25, 24, 22,
                                23] },
                          { o := { dst := some 41, op := Op.move (Operand.tmp 40), g := none },
                            kn :=
                              [40, 39, 33, 32, 31, 29, 30, 38, 37, 36, 34, 35, 28, 27, 21, 20, 19, 17, 18, 26, 25, 24, 22,
                                23] },
                          { o := { dst := some 42, op := Op.move (Operand.tmp 0), g := some (41, false) },
                            kn :=
                              [41, 40, 39, 33, 32, 31, 29, 30, 38, 37, 36, 34, 35, 28, 27, 21, 20, 19, 17, 18, 26, 25, 24,
                                22, 23] },
                          { o := { dst := some 43, op := Op.move (Operand.tmp 5), g := some (41, false) },
                            kn :=
                              [41, 40, 39, 33, 32, 31, 29, 30, 38, 37, 36, 34, 35, 28, 27, 21, 20, 19, 17, 18, 26, 25, 24,
                                22, 23] },
                          {
                            o :=
                              { dst := some 44, op := Op.indexAddr 29 (Operand.tmp 42) (Operand.tmp 43),
                                g := some (41, false) },
                            kn :=
                              [42, 43, 41, 40, 39, 33, 32, 31, 29, 30, 38, 37, 36, 34, 35, 28, 27, 21, 20, 19, 17, 18, 26,
                                25, 24, 22, 23] },
                          { o := { dst := some 45, op := Op.fieldAddr 44 (Operand.tmp 44) 2, g := some (41, false) },
                            kn :=
                              [44, 42, 43, 41, 40, 39, 33, 32, 31, 29, 30, 38, 37, 36, 34, 35, 28, 27, 21, 20, 19, 17, 18,
                                26, 25, 24, 22, 23] },
                          { o := { dst := some 46, op := Op.load 3 (Operand.tmp 45), g := some (41, false) },
                            kn :=
                              [45, 44, 42, 43, 41, 40, 39, 33, 32, 31, 29, 30, 38, 37, 36, 34, 35, 28, 27, 21, 20, 19, 17,
                                18, 26, 25, 24, 22, 23] },
                          { o := { dst := some 47, op := Op.move (Operand.tmp 1), g := some (41, false) },
                            kn :=
                              [41, 40, 39, 33, 32, 31, 29, 30, 38, 37, 36, 34, 35, 28, 27, 21, 20, 19, 17, 18, 26, 25, 24,
                                22, 23] },
                          { o := { dst := some 48, op := Op.move (Operand.tmp 5), g := some (41, false) },
                            kn :=
                              [41, 40, 39, 33, 32, 31, 29, 30, 38, 37, 36, 34, 35, 28, 27, 21, 20, 19, 17, 18, 26, 25, 24,
                                22, 23] },
                          {
                            o :=
                              { dst := some 49, op := Op.indexAddr 29 (Operand.tmp 47) (Operand.tmp 48),
                                g := some (41, false) },
                            kn :=
                              [47, 48, 41, 40, 39, 33, 32, 31, 29, 30, 38, 37, 36, 34, 35, 28, 27, 21, 20, 19, 17, 18, 26,
                                25, 24, 22, 23] },
                          { o := { dst := some 50, op := Op.fieldAddr 44 (Operand.tmp 49) 2, g := some (41, false) },
                            kn :=
                              [49, 47, 48, 41, 40, 39, 33, 32, 31, 29, 30, 38, 37, 36, 34, 35, 28, 27, 21, 20, 19, 17, 18,
                                26, 25, 24, 22, 23] },
                          { o := { dst := some 51, op := Op.load 3 (Operand.tmp 50), g := some (41, false) },
                            kn :=
                              [50, 49, 47, 48, 41, 40, 39, 33, 32, 31, 29, 30, 38, 37, 36, 34, 35, 28, 27, 21, 20, 19, 17,
                                18, 26, 25, 24, 22, 23] },
                          {
                            o :=
                              { dst := some 52, op := Op.binOp BinOp.neq 3 (Operand.tmp 46) (Operand.tmp 51) 3,
                                g := some (41, false) },
                            kn :=
                              [46, 45, 44, 42, 43, 51, 50, 49, 47, 48, 41, 40, 39, 33, 32, 31, 29, 30, 38, 37, 36, 34, 35,
                                28, 27, 21, 20, 19, 17, 18, 26, 25, 24, 22, 23] },
                          {
                            o :=
                              { dst := some 53,
                                op := Op.pick (Operand.tmp 41) (Operand.const (Value.bool true)) (Operand.tmp 52),
                                g := none },
                            kn :=
                              [52, 46, 45, 44, 42, 43, 51, 50, 49, 47, 48, 41, 40, 39, 33, 32, 31, 29, 30, 38, 37, 36, 34,
                                35, 28, 27, 21, 20, 19, 17, 18, 26, 25, 24, 22, 23] },
                          { o := { dst := some 54, op := Op.move (Operand.tmp 53), g := none },
                            kn :=
                              [53, 52, 46, 45, 44, 42, 43, 51, 50, 49, 47, 48, 41, 40, 39, 33, 32, 31, 29, 30, 38, 37, 36,
                                34, 35, 28, 27, 21, 20, 19, 17, 18, 26, 25, 24, 22, 23] },
                          { o := { dst := some 55, op := Op.move (Operand.tmp 0), g := some (54, false) },
                            kn :=
                              [54, 53, 52, 46, 45, 44, 42, 43, 51, 50, 49, 47, 48, 41, 40, 39, 33, 32, 31, 29, 30, 38, 37,
                                36, 34, 35, 28, 27, 21, 20, 19, 17, 18, 26, 25, 24, 22, 23] },
                          { o := { dst := some 56, op := Op.move (Operand.tmp 5), g := some (54, false) },
                            kn :=
                              [54, 53, 52, 46, 45, 44, 42, 43, 51, 50, 49, 47, 48, 41, 40, 39, 33, 32, 31, 29, 30, 38, 37,
                                36, 34, 35, 28, 27, 21, 20, 19, 17, 18, 26, 25, 24, 22, 23] },
                          {
                            o :=
                              { dst := some 57, op := Op.indexAddr 29 (Operand.tmp 55) (Operand.tmp 56),
                                g := some (54, false) },
                            kn :=
                              [55, 56, 54, 53, 52, 46, 45, 44, 42, 43, 51, 50, 49, 47, 48, 41, 40, 39, 33, 32, 31, 29, 30,
                                38, 37, 36, 34, 35, 28, 27, 21, 20, 19, 17, 18, 26, 25, 24, 22, 23] },
                          { o := { dst := some 58, op := Op.fieldAddr 44 (Operand.tmp 57) 3, g := some (54, false) },
                            kn :=
                              [57, 55, 56, 54, 53, 52, 46, 45, 44, 42, 43, 51, 50, 49, 47, 48, 41, 40, 39, 33, 32, 31, 29,
                                30, 38, 37, 36, 34, 35, 28, 27, 21, 20, 19, 17, 18, 26, 25, 24, 22, 23] },
                          { o := { dst := some 59, op := Op.load 3 (Operand.tmp 58), g := some (54, false) },
                            kn :=
                              [58, 57, 55, 56, 54, 53, 52, 46, 45, 44, 42, 43, 51, 50, 49, 47, 48, 41, 40, 39, 33, 32, 31,
                                29, 30, 38, 37, 36, 34, 35, 28, 27, 21, 20, 19, 17, 18, 26, 25, 24, 22, 23] },
                          { o := { dst := some 60, op := Op.move (Operand.tmp 1), g := some (54, false) },
                            kn :=
                              [54, 53, 52, 46, 45, 44, 42, 43, 51, 50, 49, 47, 48, 41, 40, 39, 33, 32, 31, 29, 30, 38, 37,
                                36, 34, 35, 28, 27, 21, 20, 19, 17, 18, 26, 25, 24, 22, 23] },
                          { o := { dst := some 61, op := Op.move (Operand.tmp 5), g := some (54, false) },
                            kn :=
                              [54, 53, 52, 46, 45, 44, 42, 43, 51, 50, 49, 47, 48, 41, 40, 39, 33, 32, 31, 29, 30, 38, 37,
                                36, 34, 35, 28, 27, 21, 20, 19, 17, 18, 26, 25, 24, 22, 23] },
                          {
                            o :=
                              { dst := some 62, op := Op.indexAddr 29 (Operand.tmp 60) (Operand.tmp 61),
                                g := some (54, false) },
                            kn :=
                              [60, 61, 54, 53, 52, 46, 45, 44, 42, 43, 51, 50, 49, 47, 48, 41, 40, 39, 33, 32, 31, 29, 30,
                                38, 37, 36, 34, 35, 28, 27, 21, 20, 19, 17, 18, 26, 25, 24, 22, 23] },
                          { o := { dst := some 63, op := Op.fieldAddr 44 (Operand.tmp 62) 3, g := some (54, false) },
                            kn :=
                              [62, 60, 61, 54, 53, 52, 46, 45, 44, 42, 43, 51, 50, 49, 47, 48, 41, 40, 39, 33, 32, 31, 29,
                                30, 38, 37, 36, 34, 35, 28, 27, 21, 20, 19, 17, 18, 26, 25, 24, 22, 23] },
                          { o := { dst := some 64, op := Op.load 3 (Operand.tmp 63), g := some (54, false) },
                            kn :=
                              [63, 62, 60, 61, 54, 53, 52, 46, 45, 44, 42, 43, 51, 50, 49, 47, 48, 41, 40, 39, 33, 32, 31,
                                29, 30, 38, 37, 36, 34, 35, 28, 27, 21, 20, 19, 17, 18, 26, 25, 24, 22, 23] },
                          {
                            o :=
                              { dst := some 65, op := Op.binOp BinOp.neq 3 (Operand.tmp 59) (Operand.tmp 64) 3,
                                g := some (54, false) },
                            kn :=
                              [59, 58, 57, 55, 56, 64, 63, 62, 60, 61, 54, 53, 52, 46, 45, 44, 42, 43, 51, 50, 49, 47, 48,
                                41, 40, 39, 33, 32, 31, 29, 30, 38, 37, 36, 34, 35, 28, 27, 21, 20, 19, 17, 18, 26, 25,
                                24, 22, 23] },
                          {
                            o :=
                              { dst := some 66,
                                op := Op.pick (Operand.tmp 54) (Operand.const (Value.bool true)) (Operand.tmp 65),
                                g := none },
                            kn :=
                              [65, 59, 58, 57, 55, 56, 64, 63, 62, 60, 61, 54, 53, 52, 46, 45, 44, 42, 43, 51, 50, 49, 47,
                                48, 41, 40, 39, 33, 32, 31, 29, 30, 38, 37, 36, 34, 35, 28, 27, 21, 20, 19, 17, 18, 26,
                                25, 24, 22, 23] }]
                        [] { lo := 17, hi := 66, xs := [] } { lo := 17, hi := 65, xs := [] } [])
                      (AC.cond (Operand.tmp 66)
                        (AC.seq
                          (AC.reg [{ dst := some 4, op := Op.assign (Operand.const (Value.bool false)), g := none }]
                            { lo := 1, hi := 0, xs := [] } [])
                          AC.ret)
                        AC.skip)))
                  (AC.reg
                    [{ dst := some 15, op := Op.move (Operand.tmp 5), g := none },
                      { dst := some 16,
                        op :=
                          Op.binOp BinOp.add 3 (Operand.tmp 15) (Operand.const (Value.int IntKind.i64 1)) 3,
                        g := none },
                      { dst := some 5, op := Op.assign (Operand.tmp 16), g := none }]
                    { lo := 15, hi := 16, xs := [] } []))))))
        (AC.seq
          (AC.reg [{ dst := some 4, op := Op.assign (Operand.const (Value.bool true)), g := none }]
            { lo := 1, hi := 0, xs := [] } [])
          AC.ret)))

theorem e19 : slim (Try.f19.body.getD .skip) = c19 := by kernel_rfl
theorem b19 : Try.f19.body = some (Try.f19.body.getD .skip) := by kernel_rfl
theorem d19 : textOk Try.prog 67 (Try.f19.body.getD .skip) = true := by kernel_rfl
theorem r19 : Try.f19.results.toList = [ResultVar.tmp 4] := by kernel_rfl
theorem n19 : Try.f19.name ≠ "runtime.NumGoroutine" := by decide

def c20 : AC :=
  AC.seq
    (AC.reg
      [{ dst := some 2, op := Op.box 32 (Operand.tmp 0), g := none },
        { dst := some 3, op := Op.box 32 (Operand.tmp 1), g := none },
        { dst := some 4, op := Op.assign (Operand.const (Value.bool false)), g := none }]
      { lo := 1, hi := 0, xs := [] } [])
    (AC.seq
      (AC.reg
        [{ dst := some 5, op := Op.fieldAddr 32 (Operand.tmp 2) 0, g := none },
          { dst := some 6, op := Op.load 3 (Operand.tmp 5), g := none },
          { dst := some 7, op := Op.fieldAddr 32 (Operand.tmp 3) 0, g := none },
          { dst := some 8, op := Op.load 3 (Operand.tmp 7), g := none },
          { dst := some 9, op := Op.binOp BinOp.neq 3 (Operand.tmp 6) (Operand.tmp 8) 3, g := none },
          { dst := some 10, op := Op.move (Operand.tmp 9), g := none },
          { dst := some 11, op := Op.fieldAddr 32 (Operand.tmp 2) 0, g := some (10, true) },
          { dst := some 12, op := Op.load 3 (Operand.tmp 11), g := some (10, true) },
          { dst := some 13, op := Op.fieldAddr 32 (Operand.tmp 3) 1, g := some (10, true) },
          { dst := some 14, op := Op.load 3 (Operand.tmp 13), g := some (10, true) },
          { dst := some 15, op := Op.binOp BinOp.neq 3 (Operand.tmp 12) (Operand.tmp 14) 3, g := some (10, true) },
          { dst := some 16, op := Op.pick (Operand.tmp 10) (Operand.tmp 15) (Operand.const (Value.bool false)),
            g := none },
          { dst := some 17, op := Op.move (Operand.tmp 16), g := none },
          { dst := some 18, op := Op.fieldAddr 32 (Operand.tmp 2) 1, g := some (17, true) },
          { dst := some 19, op := Op.load 3 (Operand.tmp 18), g := some (17, true) },
          { dst := some 20, op := Op.fieldAddr 32 (Operand.tmp 3) 0, g := some (17, true) },
          { dst := some 21, op := Op.load 3 (Operand.tmp 20), g := some (17, true) },
          { dst := some 22, op := Op.binOp BinOp.neq 3 (Operand.tmp 19) (Operand.tmp 21) 3, g := some (17, true) },
          { dst := some 23, op := Op.pick (Operand.tmp 17) (Operand.tmp 22) (Operand.const (Value.bool false)),
            g := none },
          { dst := some 24, op := Op.move (Operand.tmp 23), g := none },
          { dst := some 25, op := Op.fieldAddr 32 (Operand.tmp 2) 1, g := some (24, true) },
          { dst := some 26, op := Op.load 3 (Operand.tmp 25), g := some (24, true) },
          { dst := some 27, op := Op.fieldAddr 32 (Operand.tmp 3) 1, g := some (24, true) },
          { dst := some 28, op := Op.load 3 (Operand.tmp 27), g := some (24, true) },
          { dst := some 29, op := Op.binOp BinOp.neq 3 (Operand.tmp 26) (Operand.tmp 28) 3, g := some (24, true) },
          { dst := some 30, op := Op.pick (Operand.tmp 24) (Operand.tmp 29) (Operand.const (Value.bool false)),
            g := none },
          { dst := some 4, op := Op.assign (Operand.tmp 30), g := none }]
        { lo := 5, hi := 30, xs := [] } [])
      AC.ret)

theorem e20 : slim (Try.f20.body.getD .skip) = c20 := by kernel_rfl
theorem b20 : Try.f20.body = some (Try.f20.body.getD .skip) := by kernel_rfl
theorem d20 : textOk Try.prog 31 (Try.f20.body.getD .skip) = true := by kernel_rfl
theorem r20 : Try.f20.results.toList = [ResultVar.tmp 4] := by kernel_rfl
theorem n20 : Try.f20.name ≠ "runtime.NumGoroutine" := by decide

def c21 : AC :=
  AC.seq
    (AC.reg
      [{ dst := some 2, op := Op.box 32 (Operand.tmp 0), g := none },
        { dst := some 3, op := Op.box 32 (Operand.tmp 1), g := none },
        { dst := some 4, op := Op.assign (Operand.const (Value.bool false)), g := none }]
      { lo := 1, hi := 0, xs := [] } [])
    (AC.seq
      (AC.reg
        [{ dst := some 5, op := Op.fieldAddr 32 (Operand.tmp 2) 0, g := none },
          { dst := some 6, op := Op.load 3 (Operand.tmp 5), g := none },
          { dst := some 7, op := Op.fieldAddr 32 (Operand.tmp 3) 0, g := none },
          { dst := some 8, op := Op.load 3 (Operand.tmp 7), g := none },
          { dst := some 9, op := Op.binOp BinOp.neq 3 (Operand.tmp 6) (Operand.tmp 8) 3, g := none },
          { dst := some 10, op := Op.move (Operand.tmp 9), g := none },
          { dst := some 11, op := Op.fieldAddr 32 (Operand.tmp 2) 0, g := some (10, true) },
          { dst := some 12, op := Op.load 3 (Operand.tmp 11), g := some (10, true) },
          { dst := some 13, op := Op.fieldAddr 32 (Operand.tmp 3) 1, g := some (10, true) },
          { dst := some 14, op := Op.load 3 (Operand.tmp 13), g := some (10, true) },
          { dst := some 15, op := Op.binOp BinOp.neq 3 (Operand.tmp 12) (Operand.tmp 14) 3, g := some (10, true) },
          { dst := some 16, op := Op.pick (Operand.tmp 10) (Operand.tmp 15) (Operand.const (Value.bool false)),
            g := none },
          { dst := some 17, op := Op.move (Operand.tmp 16), g := none },
          { dst := some 18, op := Op.fieldAddr 32 (Operand.tmp 2) 1, g := some (17, true) },
          { dst := some 19, op := Op.load 3 (Operand.tmp 18), g := some (17, true) },
          { dst := some 20, op := Op.fieldAddr 32 (Operand.tmp 3) 0, g := some (17, true) },
          { dst := some 21, op := Op.load 3 (Operand.tmp 20), g := some (17, true) },
          { dst := some 22, op := Op.binOp BinOp.neq 3 (Operand.tmp 19) (Operand.tmp 21) 3, g := some (17, true) },
          { dst := some 23, op := Op.pick (Operand.tmp 17) (Operand.tmp 22) (Operand.const (Value.bool false)),
            g := none },
          { dst := some 24, op := Op.move (Operand.tmp 23), g := none },
          { dst := some 25, op := Op.fieldAddr 32 (Operand.tmp 2) 1, g := some (24, true) },
          { dst := some 26, op := Op.load 3 (Operand.tmp 25), g := some (24, true) },
          { dst := some 27, op := Op.fieldAddr 32 (Operand.tmp 3) 1, g := some (24, true) },
          { dst := some 28, op := Op.load 3 (Operand.tmp 27), g := some (24, true) },
          { dst := some 29, op := Op.binOp BinOp.neq 3 (Operand.tmp 26) (Operand.tmp 28) 3, g := some (24, true) },
          { dst := some 30, op := Op.pick (Operand.tmp 24) (Operand.tmp 29) (Operand.const (Value.bool false)),
            g := none },
          { dst := some 4, op := Op.assign (Operand.tmp 30), g := none }]
        { lo := 5, hi := 30, xs := [] } [])
      AC.ret)

theorem e21 : slim (Try.f21.body.getD .skip) = c21 := by kernel_rfl
theorem b21 : Try.f21.body = some (Try.f21.body.getD .skip) := by kernel_rfl
theorem d21 : textOk Try.prog 31 (Try.f21.body.getD .skip) = true := by kernel_rfl
theorem r21 : Try.f21.results.toList = [ResultVar.tmp 4] := by kernel_rfl
theorem n21 : Try.f21.name ≠ "runtime.NumGoroutine" := by decide

def c22 : AC :=
  AC.seq
    (AC.reg [{ dst := some 2, op := Op.assign (Operand.const (Value.bool false)), g := none }]
      { lo := 1, hi := 0, xs := [] } [])
    (AC.seq
      (AC.seq
        (AC.reg
          [{ dst := some 5, op := Op.move (Operand.tmp 0), g := none },
            { dst := some 6,
              op :=
                Op.call
                  { callee := Callee.builtin Builtin.len, args := #[Operand.tmp 5],
                    argTypes := #[22] },
              g := none },
            { dst := some 7, op := Op.move (Operand.const (Value.int IntKind.i64 0)), g := none }]
          { lo := 1, hi := 0, xs := [] } [])
        (AC.block 0
          (AC.loop
            (AC.seq
              (AC.reg [{ dst := some 8, op := Op.binOp BinOp.lss 3 (Operand.tmp 7) (Operand.tmp 6) 3, g := none }]
                { lo := 1, hi := 0, xs := [] } [])
              (AC.seq (AC.cond (Operand.tmp 8) AC.skip (AC.exit 0))
                (AC.seq
                  (AC.block 1
                    (AC.seq
                      (AC.reg
                        [{ dst := some 9, op := Op.indexAddr 22 (Operand.tmp 5) (Operand.tmp 7), g := none },
                          { dst := some 10, op := Op.load 32 (Operand.tmp 9), g := none },
                          { dst := some 4, op := Op.alloc 32, g := none },
                          { dst := none, op := Op.store 32 (Operand.tmp 4) (Operand.tmp 10), g := none }]
                        { lo := 9, hi := 10, xs := [] } [])
                      (AC.seq
                        (AC.reg
                          [{ dst := some 11, op := Op.fieldAddr 32 (Operand.tmp 4) 0, g := none },
                            { dst := some 12, op := Op.load 3 (Operand.tmp 11), g := none },
                            { dst := some 13,
                              op :=
                                Op.binOp BinOp.lss 3 (Operand.tmp 12)
                                  (Operand.const (Value.int IntKind.i64 0)) 3,
                              g := none },
                            { dst := some 14, op := Op.move (Operand.tmp 13), g := none },
                            { dst := some 15, op := Op.fieldAddr 32 (Operand.tmp 4) 0, g := some (14, false) },
                            { dst := some 16, op := Op.load 3 (Operand.tmp 15), g := some (14, false) },
                            { dst := some 17,
                              op :=
                                Op.binOp BinOp.geq 3 (Operand.tmp 16)
                                  (Operand.const (Value.int IntKind.i64 6)) 3,
                              g := some (14, false) },
                            { dst := some 18,
                              op := Op.pick (Operand.tmp 14) (Operand.const (Value.bool true)) (Operand.tmp 17),
                              g := none },
                            { dst := some 19, op := Op.move (Operand.tmp 18), g := none },
                            { dst := some 20, op := Op.fieldAddr 32 (Operand.tmp 4) 1, g := some (19, false) },
                            { dst := some 21, op := Op.load 3 (Operand.tmp 20), g := some (19, false) },
                            { dst := some 22,
                              op :=
                                Op.binOp BinOp.lss 3 (Operand.tmp 21)
                                  (Operand.const (Value.int IntKind.i64 0)) 3,
                              g := some (19, false) },
                            { dst := some 23,
                              op := Op.pick (Operand.tmp 19) (Operand.const (Value.bool true)) (Operand.tmp 22),
                              g := none },
                            { dst := some 24, op := Op.move (Operand.tmp 23), g := none },
                            { dst := some 25, op := Op.fieldAddr 32 (Operand.tmp 4) 1, g := some (24, false) },
                            { dst := some 26, op := Op.load 3 (Operand.tmp 25), g := some (24, false) },
                            { dst := some 27,
                              op :=
                                Op.binOp BinOp.geq 3 (Operand.tmp 26)
                                  (Operand.const (Value.int IntKind.i64 6)) 3,
                              g := some (24, false) },
                            { dst := some 28,
                              op := Op.pick (Operand.tmp 24) (Operand.const (Value.bool true)) (Operand.tmp 27),
                              g := none },
                            { dst := some 29, op := Op.move (Operand.tmp 28), g := none },
                            { dst := some 30, op := Op.fieldAddr 32 (Operand.tmp 4) 0, g := some (29, false) },
                            { dst := some 31, op := Op.load 3 (Operand.tmp 30), g := some (29, false) },
                            { dst := some 32, op := Op.fieldAddr 32 (Operand.tmp 4) 1, g := some (29, false) },
                            { dst := some 33, op := Op.load 3 (Operand.tmp 32), g := some (29, false) },
                            { dst := some 34, op := Op.binOp BinOp.eql 3 (Operand.tmp 31) (Operand.tmp 33) 3,
                              g := some (29, false) },
                            { dst := some 35,
                              op := Op.pick (Operand.tmp 29) (Operand.const (Value.bool true)) (Operand.tmp 34),
                              g := none }]
                          { lo := 11, hi := 34, xs := [] } [])
                        (AC.cond (Operand.tmp 35)
                          (AC.seq
                            (AC.reg [{ dst := some 2, op := Op.assign (Operand.const (Value.bool false)), g := none }]
                              { lo := 1, hi := 0, xs := [] } [])
                            AC.ret)
                          AC.skip))))
                  (AC.reg
                    [{ dst := some 36,
                        op :=
                          Op.binOp BinOp.add 3 (Operand.tmp 7) (Operand.const (Value.int IntKind.i64 1)) 3,
                        g := none },
                      { dst := some 7, op := Op.move (Operand.tmp 36), g := none }]
                    { lo := 36, hi := 36, xs := [] } [])))))))
      (AC.seq
        (AC.reg [{ dst := some 2, op := Op.assign (Operand.const (Value.bool true)), g := none }]
          { lo := 1, hi := 0, xs := [] } [])
        AC.ret))

theorem e22 : slim (Try.f22.body.getD .skip) = c22 := by kernel_rfl
theorem b22 : Try.f22.body = some (Try.f22.body.getD .skip) := by kernel_rfl
theorem d22 : textOk Try.prog 37 (Try.f22.body.getD .skip) = true := by kernel_rfl
theorem r22 : Try.f22.results.toList = [ResultVar.tmp 2] := by kernel_rfl
theorem n22 : Try.f22.name ≠ "runtime.NumGoroutine" := by decide

def c23 : AC :=
  AC.seq
    (AC.reg
      [{ dst := some 2, op := Op.assign (Operand.const (Value.slice none 0 0)), g := none },
        { dst := some 3, op := Op.assign (Operand.const (Value.bool false)), g := none }]
      { lo := 1, hi := 0, xs := [] } [])
    (AC.seq
      (AC.seq
        (AC.reg
          [{ dst := some 16, op := Op.move (Operand.tmp 0), g := none },
            { dst := some 17,
              op :=
                Op.call
                  { callee := Callee.value (Operand.func 35), args := #[Operand.tmp 16],
                    argTypes := #[24] },
              g := none },
            { dst := some 18, op := Op.unOp UnOp.not 4 (Operand.tmp 17), g := none }]
          { lo := 16, hi := 17, xs := [] } [])
        (AC.cond (Operand.tmp 18)
          (AC.seq
            (AC.reg
              [{ dst := some 2, op := Op.assign (Operand.const (Value.slice none 0 0)), g := none },
                { dst := some 3, op := Op.assign (Operand.const (Value.bool false)), g := none }]
              { lo := 1, hi := 0, xs := [] } [])
            AC.ret)
          AC.skip))
      (AC.seq
        (AC.reg
          [{ dst := some 19, op := Op.move (Operand.tmp 0), g := none },
            { dst := some 20,
              op :=
                Op.call
                  { callee := Callee.value (Operand.func 36), args := #[Operand.tmp 19],
                    argTypes := #[24] },
              g := none },
            { dst := some 4, op := Op.assign (Operand.tmp 20), g := none }]
          { lo := 19, hi := 20, xs := [] } [])
        (AC.seq
          (AC.reg [{ dst := some 5, op := Op.assign (Operand.const (Value.int IntKind.i64 0)), g := none }]
            { lo := 1, hi := 0, xs := [] } [])
          (AC.seq
            (AC.seq
              (AC.reg
                [{ dst := some 21, op := Op.move (Operand.tmp 4), g := none },
                  { dst := some 22,
                    op :=
                      Op.call
                        { callee := Callee.builtin Builtin.len, args := #[Operand.tmp 21],
                          argTypes := #[24] },
                    g := none },
                  { dst := some 23, op := Op.move (Operand.const (Value.int IntKind.i64 0)), g := none }]
                { lo := 1, hi := 0, xs := [] } [])
              (AC.block 0
                (AC.loop
                  (AC.seq
                    (AC.reg
                      [{ dst := some 24, op := Op.binOp BinOp.lss 3 (Operand.tmp 23) (Operand.tmp 22) 3, g := none }]
                      { lo := 1, hi := 0, xs := [] } [])
                    (AC.seq (AC.cond (Operand.tmp 24) AC.skip (AC.exit 0))
                      (AC.seq
                        (AC.block 1
                          (AC.seq
                            (AC.reg
                              [{ dst := some 25, op := Op.indexAddr 24 (Operand.tmp 21) (Operand.tmp 23), g := none },
                                { dst := some 26, op := Op.load 29 (Operand.tmp 25), g := none },
                                { dst := some 7, op := Op.assign (Operand.tmp 26), g := none }]
                              { lo := 25, hi := 26, xs := [] } [])
                            (AC.reg
                              [{ dst := some 27, op := Op.move (Operand.tmp 5), g := none },
                                { dst := some 28, op := Op.move (Operand.tmp 7), g := none },
                                { dst := some 29,
                                  op :=
                                    Op.call
                                      { callee := Callee.builtin Builtin.len, args := #[Operand.tmp 28],
                                        argTypes := #[29] },
                                  g := none },
                                { dst := some 30, op := Op.binOp BinOp.add 3 (Operand.tmp 27) (Operand.tmp 29) 3,
                                  g := none },
                                { dst := some 5, op := Op.assign (Operand.tmp 30), g := none }]
                              { lo := 27, hi := 30, xs := [] } [])))
                        (AC.reg
                          [{ dst := some 31,
                              op :=
                                Op.binOp BinOp.add 3 (Operand.tmp 23)
                                  (Operand.const (Value.int IntKind.i64 1)) 3,
                              g := none },
                            { dst := some 23, op := Op.move (Operand.tmp 31), g := none }]
                          { lo := 31, hi := 31, xs := [] } [])))))))
            (AC.seq
              (AC.reg [{ dst := some 8, op := Op.assign (Operand.const (Value.slice none 0 0)), g := none }]
                { lo := 1, hi := 0, xs := [] } [])
              (AC.seq
                (AC.block 2
                  (AC.loop
                    (AC.seq
                      (AC.seq
                        (AC.reg
                          [{ dst := some 32, op := Op.move (Operand.tmp 5), g := none },
                            { dst := some 33,
                              op :=
                                Op.binOp BinOp.gtr 3 (Operand.tmp 32)
                                  (Operand.const (Value.int IntKind.i64 0)) 3,
                              g := none }]
                          { lo := 32, hi := 32, xs := [] } [])
                        (AC.cond (Operand.tmp 33) AC.skip (AC.exit 2)))
                      (AC.seq
                        (AC.block 3
                          (AC.seq
                            (AC.reg
                              [{ dst := some 36, op := Op.build 32 #[], g := none },
                                { dst := some 9, op := Op.alloc 32, g := none },
                                { dst := none, op := Op.store 32 (Operand.tmp 9) (Operand.tmp 36), g := none },
                                { dst := some 10, op := Op.assign (Operand.const (Value.bool false)), g := none }]
                              { lo := 36, hi := 36, xs := [] } [])
                            (AC.seq
                              (AC.seq
                                (AC.reg
                                  [{ dst := some 37, op := Op.move (Operand.tmp 4), g := none },
                                    { dst := some 38,
                                      op :=
                                        Op.call
                                          { callee := Callee.builtin Builtin.len, args := #[Operand.tmp 37],
                                            argTypes := #[24] },
                                      g := none },
                                    { dst := some 39, op := Op.move (Operand.const (Value.int IntKind.i64 0)),
                                      g := none }]
                                  { lo := 1, hi := 0, xs := [] } [])
                                (AC.block 4
                                  (AC.loop
                                    (AC.seq
                                      (AC.reg
                                        [{ dst := some 40, op := Op.binOp BinOp.lss 3 (Operand.tmp 39) (Operand.tmp 38) 3,
                                            g := none }]
                                        { lo := 1, hi := 0, xs := [] } [])
                                      (AC.seq (AC.cond (Operand.tmp 40) AC.skip (AC.exit 4))
                                        (AC.seq
                                          (AC.block 5
                                            (AC.seq
                                              (AC.reg
                                                [{ dst := some 41,
                                                    op := Op.indexAddr 24 (Operand.tmp 37) (Operand.tmp 39), g := none },
                                                  { dst := some 42, op := Op.load 29 (Operand.tmp 41), g := none },
                                                  { dst := some 12, op := Op.assign (Operand.tmp 42), g := none }]
                                                { lo := 41, hi := 42, xs := [] } [])
                                              (AC.seq
                                                (AC.seq
                                                  (AC.reg
                                                    [{ dst := some 43, op := Op.move (Operand.tmp 12), g := none },
                                                      { dst := some 44,
                                                        op :=
                                                          Op.call
                                                            { callee := Callee.builtin Builtin.len,
                                                              args := #[Operand.tmp 43],
                                                              argTypes := #[29] },
                                                        g := none },
                                                      { dst := some 45,
                                                        op :=
                                                          Op.binOp BinOp.eql 3 (Operand.tmp 44)
                                                            (Operand.const (Value.int IntKind.i64 0)) 3,
                                                        g := none },
                                                      { dst := some 46, op := Op.move (Operand.tmp 45), g := none },
                                                      { dst := some 47, op := Op.move (Operand.tmp 12),
                                                        g := some (46, false) },
                                                      { dst := some 48,
                                                        op :=
                                                          Op.indexAddr 29 (Operand.tmp 47)
                                                            (Operand.const (Value.int IntKind.i64 0)),
                                                        g := some (46, false) },
                                                      { dst := some 49, op := Op.fieldAddr 44 (Operand.tmp 48) 1,
                                                        g := some (46, false) },
                                                      { dst := some 50, op := Op.load 4 (Operand.tmp 49),
                                                        g := some (46, false) },
                                                      { dst := some 51, op := Op.unOp UnOp.not 4 (Operand.tmp 50),
                                                        g := some (46, false) },
                                                      { dst := some 52,
                                                        op :=
                                                          Op.pick (Operand.tmp 46) (Operand.const (Value.bool true))
                                                            (Operand.tmp 51),
                                                        g := none },
                                                      { dst := some 53, op := Op.move (Operand.tmp 52), g := none },
                                                      { dst := some 54, op := Op.move (Operand.tmp 4),
                                                        g := some (53, false) },
                                                      { dst := some 55, op := Op.move (Operand.tmp 12),
                                                        g := some (53, false) },
                                                      { dst := some 56,
                                                        op :=
                                                          Op.indexAddr 29 (Operand.tmp 55)
                                                            (Operand.const (Value.int IntKind.i64 0)),
                                                        g := some (53, false) },
                                                      { dst := some 57, op := Op.fieldAddr 44 (Operand.tmp 56) 2,
                                                        g := some (53, false) },
                                                      { dst := some 58, op := Op.load 3 (Operand.tmp 57),
                                                        g := some (53, false) },
                                                      { dst := some 59,
                                                        op := Op.indexAddr 24 (Operand.tmp 54) (Operand.tmp 58),
                                                        g := some (53, false) },
                                                      { dst := some 60, op := Op.load 29 (Operand.tmp 59),
                                                        g := some (53, false) },
                                                      { dst := some 61,
                                                        op :=
                                                          Op.call
                                                            { callee := Callee.builtin Builtin.len,
                                                              args := #[Operand.tmp 60],
                                                              argTypes := #[29] },
                                                        g := some (53, false) },
                                                      { dst := some 62,
                                                        op :=
                                                          Op.binOp BinOp.eql 3 (Operand.tmp 61)
                                                            (Operand.const (Value.int IntKind.i64 0)) 3,
                                                        g := some (53, false) },
                                                      { dst := some 63,
                                                        op :=
                                                          Op.pick (Operand.tmp 53) (Operand.const (Value.bool true))
                                                            (Operand.tmp 62),
                                                        g := none }]
                                                    { lo := 43, hi := 62, xs := [] } [])
                                                  (AC.cond (Operand.tmp 63) (AC.exit 5) AC.skip))
                                                (AC.seq
                                                  (AC.drw
                                                    [{ o := { dst := some 64, op := Op.move (Operand.tmp 12), g := none },
                                                        kn := [] },
                                                      {
                                                        o :=
                                                          { dst := some 65,
                                                            op :=
                                                              Op.indexAddr 29 (Operand.tmp 64)
                                                                (Operand.const (Value.int IntKind.i64 0)),
                                                            g := none },
                                                        kn := [64] },
                                                      {
                                                        o :=
                                                          { dst := some 66, op := Op.load 44 (Operand.tmp 65),
                                                            g := none },
                                                        kn := [65, 64] },
                                                      { o := { dst := some 67, op := Op.move (Operand.tmp 4), g := none },
                                                        kn := [] },
                                                      {
                                                        o :=
                                                          { dst := some 68, op := Op.move (Operand.tmp 12), g := none },
                                                        kn := [] },
                                                      {
                                                        o :=
                                                          { dst := some 69,
                                                            op :=
                                                              Op.indexAddr 29 (Operand.tmp 68)
                                                                (Operand.const (Value.int IntKind.i64 0)),
                                                            g := none },
                                                        kn := [68] },
                                                      {
                                                        o :=
                                                          { dst := some 70, op := Op.fieldAddr 44 (Operand.tmp 69) 2,
                                                            g := none },
                                                        kn := [69, 68] },
                                                      {
                                                        o :=
                                                          { dst := some 71, op := Op.load 3 (Operand.tmp 70), g := none },
                                                        kn := [70, 69, 68] },
                                                      {
                                                        o :=
                                                          { dst := some 72,
                                                            op := Op.indexAddr 24 (Operand.tmp 67) (Operand.tmp 71),
                                                            g := none },
                                                        kn := [67, 71, 70, 69, 68] },
                                                      {
                                                        o :=
                                                          { dst := some 73, op := Op.load 29 (Operand.tmp 72),
                                                            g := none },
                                                        kn := [72, 67, 71, 70, 69, 68] },
                                                      {
                                                        o :=
                                                          { dst := some 74,
                                                            op :=
                                                              Op.indexAddr 29 (Operand.tmp 73)
                                                                (Operand.const (Value.int IntKind.i64 0)),
                                                            g := none },
                                                        kn := [73, 72, 67, 71, 70, 69, 68] },
                                                      {
                                                        o :=
                                                          { dst := some 75, op := Op.load 44 (Operand.tmp 74),
                                                            g := none },
                                                        kn := [74, 73, 72, 67, 71, 70, 69, 68] },
                                                      { o := { dst := some 13, op := Op.alloc 44, g := none }, kn := [] },
                                                      { o := { dst := some 14, op := Op.alloc 44, g := none }, kn := [] }]
                                                    [{
                                                        o :=
                                                          { dst := none,
                                                            op := Op.store 44 (Operand.tmp 13) (Operand.tmp 66),
                                                            g := none },
                                                        kn := [13, 66, 65, 64],
                                                        un :=
                                                          [false, false, false, true, true, true, true, true, true, true,
                                                            true, true, false, false] },
                                                      {
                                                        o :=
                                                          { dst := none,
                                                            op := Op.store 44 (Operand.tmp 14) (Operand.tmp 75),
                                                            g := none },
                                                        kn := [14, 75, 74, 73, 72, 67, 71, 70, 69, 68], un := [] }]
                                                    { lo := 64, hi := 75, xs := [13, 14] }
                                                    { lo := 64, hi := 75, xs := [] } [])
                                                  (AC.seq
                                                    (AC.seq
                                                      (AC.reg
                                                        [{ dst := some 76, op := Op.fieldAddr 44 (Operand.tmp 14) 1,
                                                            g := none },
                                                          { dst := some 77, op := Op.load 4 (Operand.tmp 76), g := none },
                                                          { dst := some 78, op := Op.move (Operand.tmp 77), g := none },
                                                          { dst := some 79, op := Op.fieldAddr 44 (Operand.tmp 14) 2,
                                                            g := some (78, false) },
                                                          { dst := some 80, op := Op.load 3 (Operand.tmp 79),
                                                            g := some (78, false) },
                                                          { dst := some 81, op := Op.fieldAddr 44 (Operand.tmp 13) 0,
                                                            g := some (78, false) },
                                                          { dst := some 82, op := Op.load 3 (Operand.tmp 81),
                                                            g := some (78, false) },
                                                          { dst := some 83,
                                                            op :=
                                                              Op.binOp BinOp.neq 3 (Operand.tmp 80) (Operand.tmp 82) 3,
                                                            g := some (78, false) },
                                                          { dst := some 84,
                                                            op :=
                                                              Op.pick (Operand.tmp 78) (Operand.const (Value.bool true))
                                                                (Operand.tmp 83),
                                                            g := none },
                                                          { dst := some 85, op := Op.move (Operand.tmp 84), g := none },
                                                          { dst := some 86, op := Op.fieldAddr 44 (Operand.tmp 14) 3,
                                                            g := some (85, false) },
                                                          { dst := some 87, op := Op.load 3 (Operand.tmp 86),
                                                            g := some (85, false) },
                                                          { dst := some 88, op := Op.fieldAddr 44 (Operand.tmp 13) 3,
                                                            g := some (85, false) },
                                                          { dst := some 89, op := Op.load 3 (Operand.tmp 88),
                                                            g := some (85, false) },
                                                          { dst := some 90,
                                                            op :=
                                                              Op.binOp BinOp.neq 3 (Operand.tmp 87) (Operand.tmp 89) 3,
                                                            g := some (85, false) },
                                                          { dst := some 91,
                                                            op :=
                                                              Op.pick (Operand.tmp 85) (Operand.const (Value.bool true))
                                                                (Operand.tmp 90),
                                                            g := none }]
                                                        { lo := 76, hi := 90, xs := [] } [])
                                                      (AC.cond (Operand.tmp 91) (AC.exit 5) AC.skip))
                                                    (AC.seq
                                                      (AC.reg
                                                        [{ dst := some 92, op := Op.fieldAddr 44 (Operand.tmp 13) 0,
                                                            g := none },
                                                          { dst := some 93, op := Op.load 3 (Operand.tmp 92), g := none },
                                                          { dst := some 94, op := Op.fieldAddr 44 (Operand.tmp 13) 2,
                                                            g := none },
                                                          { dst := some 95, op := Op.load 3 (Operand.tmp 94), g := none },
                                                          { dst := some 96, op := Op.fieldAddr 44 (Operand.tmp 13) 3,
                                                            g := none },
                                                          { dst := some 97, op := Op.load 3 (Operand.tmp 96), g := none },
                                                          { dst := some 98,
                                                            op :=
                                                              Op.build 32
                                                                #[(0, Operand.tmp 93), (1, Operand.tmp 95),
                                                                      (2, Operand.tmp 97)],
                                                            g := none },
                                                          { dst := some 15, op := Op.alloc 32, g := none },
                                                          { dst := none,
                                                            op := Op.store 32 (Operand.tmp 15) (Operand.tmp 98),
                                                            g := none }]
                                                        { lo := 92, hi := 98, xs := [] } [])
                                                      (AC.seq
                                                        (AC.reg
                                                          [{ dst := some 99, op := Op.move (Operand.tmp 10), g := none },
                                                            { dst := some 100, op := Op.unOp UnOp.not 4 (Operand.tmp 99),
                                                              g := none },
                                                            { dst := some 101, op := Op.move (Operand.tmp 100),
                                                              g := none },
                                                            { dst := some 102, op := Op.load 32 (Operand.tmp 15),
                                                              g := some (101, false) },
                                                            { dst := some 103, op := Op.load 32 (Operand.tmp 9),
                                                              g := some (101, false) },
                                                            { dst := some 104,
                                                              op :=
                                                                Op.call
                                                                  { callee := Callee.value (Operand.func 33),
                                                                    args :=
                                                                      #[Operand.tmp 102, Operand.tmp 103],
                                                                    argTypes := #[32, 32] },
                                                              g := some (101, false) },
                                                            { dst := some 105,
                                                              op :=
                                                                Op.binOp BinOp.lss 3 (Operand.tmp 104)
                                                                  (Operand.const (Value.int IntKind.i64 0)) 3,
                                                              g := some (101, false) },
                                                            { dst := some 106,
                                                              op :=
                                                                Op.pick (Operand.tmp 101)
                                                                  (Operand.const (Value.bool true)) (Operand.tmp 105),
                                                              g := none }]
                                                          { lo := 99, hi := 105, xs := [] } [])
                                                        (AC.cond (Operand.tmp 106)
                                                          (AC.reg
                                                            [{ dst := some 107, op := Op.load 32 (Operand.tmp 15),
                                                                g := none },
                                                              { dst := none,
                                                                op := Op.store 32 (Operand.tmp 9) (Operand.tmp 107),
                                                                g := none },
                                                              { dst := some 10,
                                                                op := Op.assign (Operand.const (Value.bool true)),
                                                                g := none }]
                                                            { lo := 107, hi := 107, xs := [] } [])
                                                          AC.skip))))))))
                                          (AC.reg
                                            [{ dst := some 108,
                                                op :=
                                                  Op.binOp BinOp.add 3 (Operand.tmp 39)
                                                    (Operand.const (Value.int IntKind.i64 1)) 3,
                                                g := none },
                                              { dst := some 39, op := Op.move (Operand.tmp 108), g := none }]
                                            { lo := 108, hi := 108, xs := [] } [])))))))
                              (AC.seq
                                (AC.seq
                                  (AC.reg
                                    [{ dst := some 109, op := Op.move (Operand.tmp 10), g := none },
                                      { dst := some 110, op := Op.unOp UnOp.not 4 (Operand.tmp 109), g := none }]
                                    { lo := 109, hi := 109, xs := [] } [])
                                  (AC.cond (Operand.tmp 110)
                                    (AC.seq
                                      (AC.reg
                                        [{ dst := some 2, op := Op.assign (Operand.const (Value.slice none 0 0)),
                                            g := none },
                                          { dst := some 3, op := Op.assign (Operand.const (Value.bool false)),
                                            g := none }]
                                        { lo := 1, hi := 0, xs := [] } [])
                                      AC.ret)
                                    AC.skip))
                                (AC.seq
                                  (AC.reg
                                    [{ dst := some 111, op := Op.move (Operand.tmp 8), g := none },
                                      { dst := some 112, op := Op.load 32 (Operand.tmp 9), g := none },
                                      { dst := some 113, op := Op.buildSlice 22 1 #[(0, Operand.tmp 112)],
                                        g := none },
                                      { dst := some 114,
                                        op :=
                                          Op.call
                                            { callee := Callee.builtin Builtin.append,
                                              args := #[Operand.tmp 111, Operand.tmp 113],
                                              argTypes := #[22, 22] },
                                        g := none },
                                      { dst := some 8, op := Op.assign (Operand.tmp 114), g := none }]
                                    { lo := 111, hi := 114, xs := [] } [])
                                  (AC.drw
                                    [{ o := { dst := some 115, op := Op.move (Operand.tmp 4), g := none }, kn := [] },
                                      { o := { dst := some 116, op := Op.fieldAddr 32 (Operand.tmp 9) 0, g := none },
                                        kn := [] },
                                      { o := { dst := some 117, op := Op.load 3 (Operand.tmp 116), g := none },
                                        kn := [116] },
                                      { o := { dst := some 118, op := Op.move (Operand.tmp 4), g := none }, kn := [] },
                                      { o := { dst := some 119, op := Op.fieldAddr 32 (Operand.tmp 9) 1, g := none },
                                        kn := [] },
                                      { o := { dst := some 120, op := Op.load 3 (Operand.tmp 119), g := none },
                                        kn := [119] },
                                      { o := { dst := some 121, op := Op.move (Operand.tmp 4), g := none }, kn := [] },
                                      { o := { dst := some 122, op := Op.fieldAddr 32 (Operand.tmp 9) 0, g := none },
                                        kn := [] },
                                      { o := { dst := some 123, op := Op.load 3 (Operand.tmp 122), g := none },
                                        kn := [122] },
                                      {
                                        o :=
                                          { dst := some 124, op := Op.indexAddr 24 (Operand.tmp 121) (Operand.tmp 123),
                                            g := none },
                                        kn := [121, 123, 122] },
                                      { o := { dst := some 125, op := Op.load 29 (Operand.tmp 124), g := none },
                                        kn := [124, 121, 123, 122] },
                                      {
                                        o :=
                                          { dst := some 126,
                                            op :=
                                              Op.slice 29 (Operand.tmp 125)
                                                (some (Operand.const (Value.int IntKind.i64 1))) none none,
                                            g := none },
                                        kn := [125, 124, 121, 123, 122] },
                                      { o := { dst := some 127, op := Op.move (Operand.tmp 4), g := none }, kn := [] },
                                      { o := { dst := some 128, op := Op.fieldAddr 32 (Operand.tmp 9) 1, g := none },
                                        kn := [] },
                                      { o := { dst := some 129, op := Op.load 3 (Operand.tmp 128), g := none },
                                        kn := [128] },
                                      {
                                        o :=
                                          { dst := some 130, op := Op.indexAddr 24 (Operand.tmp 127) (Operand.tmp 129),
                                            g := none },
                                        kn := [127, 129, 128] },
                                      { o := { dst := some 131, op := Op.load 29 (Operand.tmp 130), g := none },
                                        kn := [130, 127, 129, 128] },
                                      {
                                        o :=
                                          { dst := some 132,
                                            op :=
                                              Op.slice 29 (Operand.tmp 131)
                                                (some (Operand.const (Value.int IntKind.i64 1))) none none,
                                            g := none },
                                        kn := [131, 130, 127, 129, 128] },
                                      {
                                        o :=
                                          { dst := some 133, op := Op.indexAddr 24 (Operand.tmp 115) (Operand.tmp 117),
                                            g := none },
                                        kn := [115, 117, 116] }]
                                    [{
                                        o :=
                                          { dst := none, op := Op.store 29 (Operand.tmp 133) (Operand.tmp 126),
                                            g := none },
                                        kn := [133, 115, 117, 116, 126, 125, 124, 121, 123, 122],
                                        un :=
                                          [false, false, false, true, true, true, false, false, false, false, false,
                                            false, false, false, false, false, false, true, false] },
                                      {
                                        o :=
                                          { dst := some 134, op := Op.indexAddr 24 (Operand.tmp 118) (Operand.tmp 120),
                                            g := none },
                                        kn := [118, 120, 119], un := [] },
                                      {
                                        o :=
                                          { dst := none, op := Op.store 29 (Operand.tmp 134) (Operand.tmp 132),
                                            g := none },
                                        kn := [132, 131, 130, 127, 129, 128], un := [] }]
                                    { lo := 115, hi := 133, xs := [] } { lo := 115, hi := 134, xs := [] } []))))))
                        (AC.reg
                          [{ dst := some 34, op := Op.move (Operand.tmp 5), g := none },
                            { dst := some 35,
                              op :=
                                Op.binOp BinOp.sub 3 (Operand.tmp 34)
                                  (Operand.const (Value.int IntKind.i64 2)) 3,
                              g := none },
                            { dst := some 5, op := Op.assign (Operand.tmp 35), g := none }]
                          { lo := 34, hi := 35, xs := [] } [])))))
                (AC.seq
                  (AC.reg
                    [{ dst := some 135, op := Op.move (Operand.tmp 8), g := none },
                      { dst := some 2, op := Op.assign (Operand.tmp 135), g := none },
                      { dst := some 3, op := Op.assign (Operand.const (Value.bool true)), g := none }]
                    { lo := 135, hi := 135, xs := [] } [])
                  AC.ret)))))))

theorem e23 : slim (Try.f23.body.getD .skip) = c23 := by kernel_rfl
theorem b23 : Try.f23.body = some (Try.f23.body.getD .skip) := by kernel_rfl
theorem d23 : textOk Try.prog 136 (Try.f23.body.getD .skip) = true := by kernel_rfl
theorem r23 : Try.f23.results.toList = [ResultVar.tmp 2, ResultVar.tmp 3] := by kernel_rfl
theorem n23 : Try.f23.name ≠ "runtime.NumGoroutine" := by decide

def c24 : AC :=
  AC.seq
    (AC.reg
      [{ dst := some 2, op := Op.box 32 (Operand.tmp 0), g := none },
        { dst := some 3, op := Op.box 32 (Operand.tmp 1), g := none },
        { dst := some 4, op := Op.assign (Operand.const (Value.bool false)), g := none }]
      { lo := 1, hi := 0, xs := [] } [])
    (AC.seq
      (AC.seq
        (AC.reg
          [{ dst := some 5, op := Op.fieldAddr 32 (Operand.tmp 2) 0, g := none },
            { dst := some 6, op := Op.load 3 (Operand.tmp 5), g := none },
            { dst := some 7, op := Op.fieldAddr 32 (Operand.tmp 3) 0, g := none },
            { dst := some 8, op := Op.load 3 (Operand.tmp 7), g := none },
            { dst := some 9, op := Op.binOp BinOp.neq 3 (Operand.tmp 6) (Operand.tmp 8) 3, g := none }]
          { lo := 5, hi := 8, xs := [] } [])
        (AC.cond (Operand.tmp 9)
          (AC.seq
            (AC.reg
              [{ dst := some 10, op := Op.fieldAddr 32 (Operand.tmp 2) 0, g := none },
                { dst := some 11, op := Op.load 3 (Operand.tmp 10), g := none },
                { dst := some 12, op := Op.fieldAddr 32 (Operand.tmp 3) 0, g := none },
                { dst := some 13, op := Op.load 3 (Operand.tmp 12), g := none },
                { dst := some 14, op := Op.binOp BinOp.lss 3 (Operand.tmp 11) (Operand.tmp 13) 3, g := none },
                { dst := some 4, op := Op.assign (Operand.tmp 14), g := none }]
              { lo := 10, hi := 14, xs := [] } [])
            AC.ret)
          AC.skip))
      (AC.seq
        (AC.seq
          (AC.reg
            [{ dst := some 15, op := Op.fieldAddr 32 (Operand.tmp 2) 1, g := none },
              { dst := some 16, op := Op.load 3 (Operand.tmp 15), g := none },
              { dst := some 17, op := Op.fieldAddr 32 (Operand.tmp 3) 1, g := none },
              { dst := some 18, op := Op.load 3 (Operand.tmp 17), g := none },
              { dst := some 19, op := Op.binOp BinOp.neq 3 (Operand.tmp 16) (Operand.tmp 18) 3, g := none }]
            { lo := 15, hi := 18, xs := [] } [])
          (AC.cond (Operand.tmp 19)
            (AC.seq
              (AC.reg
                [{ dst := some 20, op := Op.fieldAddr 32 (Operand.tmp 2) 1, g := none },
                  { dst := some 21, op := Op.load 3 (Operand.tmp 20), g := none },
                  { dst := some 22, op := Op.fieldAddr 32 (Operand.tmp 3) 1, g := none },
                  { dst := some 23, op := Op.load 3 (Operand.tmp 22), g := none },
                  { dst := some 24, op := Op.binOp BinOp.lss 3 (Operand.tmp 21) (Operand.tmp 23) 3, g := none },
                  { dst := some 4, op := Op.assign (Operand.tmp 24), g := none }]
                { lo := 20, hi := 24, xs := [] } [])
              AC.ret)
            AC.skip))
        (AC.seq
          (AC.reg
            [{ dst := some 25, op := Op.fieldAddr 32 (Operand.tmp 2) 2, g := none },
              { dst := some 26, op := Op.load 3 (Operand.tmp 25), g := none },
              { dst := some 27, op := Op.fieldAddr 32 (Operand.tmp 3) 2, g := none },
              { dst := some 28, op := Op.load 3 (Operand.tmp 27), g := none },
              { dst := some 29, op := Op.binOp BinOp.lss 3 (Operand.tmp 26) (Operand.tmp 28) 3, g := none },
              { dst := some 4, op := Op.assign (Operand.tmp 29), g := none }]
            { lo := 25, hi := 29, xs := [] } [])
          AC.ret)))

theorem e24 : slim (Try.f24.body.getD .skip) = c24 := by kernel_rfl
theorem b24 : Try.f24.body = some (Try.f24.body.getD .skip) := by kernel_rfl
theorem d24 : textOk Try.prog 30 (Try.f24.body.getD .skip) = true := by kernel_rfl
theorem r24 : Try.f24.results.toList = [ResultVar.tmp 4] := by kernel_rfl
theorem n24 : Try.f24.name ≠ "runtime.NumGoroutine" := by decide

def c25 : AC :=
  AC.seq
    (AC.reg [{ dst := some 4, op := Op.assign (Operand.const (Value.slice none 0 0)), g := none }]
      { lo := 1, hi := 0, xs := [] } [])
    (AC.seq
      (AC.reg [{ dst := some 5, op := Op.assign (Operand.const (Value.slice none 0 0)), g := none }]
        { lo := 1, hi := 0, xs := [] } [])
      (AC.seq
        (AC.seq
          (AC.reg
            [{ dst := some 8, op := Op.move (Operand.tmp 0), g := none },
              { dst := some 9,
                op :=
                  Op.call
                    { callee := Callee.builtin Builtin.len, args := #[Operand.tmp 8],
                      argTypes := #[22] },
                g := none },
              { dst := some 10, op := Op.move (Operand.const (Value.int IntKind.i64 0)), g := none }]
            { lo := 1, hi := 0, xs := [] } [])
          (AC.block 0
            (AC.loop
              (AC.seq
                (AC.reg [{ dst := some 11, op := Op.binOp BinOp.lss 3 (Operand.tmp 10) (Operand.tmp 9) 3, g := none }]
                  { lo := 1, hi := 0, xs := [] } [])
                (AC.seq (AC.cond (Operand.tmp 11) AC.skip (AC.exit 0))
                  (AC.seq
                    (AC.block 1
                      (AC.seq
                        (AC.reg
                          [{ dst := some 12, op := Op.indexAddr 22 (Operand.tmp 8) (Operand.tmp 10), g := none },
                            { dst := some 13, op := Op.load 32 (Operand.tmp 12), g := none },
                            { dst := some 7, op := Op.alloc 32, g := none },
                            { dst := none, op := Op.store 32 (Operand.tmp 7) (Operand.tmp 13), g := none }]
                          { lo := 12, hi := 13, xs := [] } [])
                        (AC.seq
                          (AC.seq
                            (AC.reg
                              [{ dst := some 14, op := Op.fieldAddr 32 (Operand.tmp 7) 0, g := none },
                                { dst := some 15, op := Op.load 3 (Operand.tmp 14), g := none },
                                { dst := some 16, op := Op.move (Operand.tmp 1), g := none },
                                { dst := some 17, op := Op.binOp BinOp.eql 3 (Operand.tmp 15) (Operand.tmp 16) 3,
                                  g := none }]
                              { lo := 14, hi := 16, xs := [] } [])
                            (AC.cond (Operand.tmp 17)
                              (AC.reg
                                [{ dst := some 18, op := Op.move (Operand.tmp 5), g := none },
                                  { dst := some 19, op := Op.move (Operand.tmp 1), g := none },
                                  { dst := some 20, op := Op.fieldAddr 32 (Operand.tmp 7) 1, g := none },
                                  { dst := some 21, op := Op.load 3 (Operand.tmp 20), g := none },
                                  { dst := some 22, op := Op.fieldAddr 32 (Operand.tmp 7) 2, g := none },
                                  { dst := some 23, op := Op.load 3 (Operand.tmp 22), g := none },
                                  { dst := some 24,
                                    op :=
                                      Op.build 44
                                        #[(0, Operand.tmp 19), (1, Operand.const (Value.bool true)),
                                              (2, Operand.tmp 21), (3, Operand.tmp 23)],
                                    g := none },
                                  { dst := some 25, op := Op.buildSlice 29 1 #[(0, Operand.tmp 24)],
                                    g := none },
                                  { dst := some 26,
                                    op :=
                                      Op.call
                                        { callee := Callee.builtin Builtin.append,
                                          args := #[Operand.tmp 18, Operand.tmp 25],
                                          argTypes := #[29, 29] },
                                    g := none },
                                  { dst := some 5, op := Op.assign (Operand.tmp 26), g := none }]
                                { lo := 18, hi := 26, xs := [] } [])
                              AC.skip))
                          (AC.seq
                            (AC.reg
                              [{ dst := some 27, op := Op.fieldAddr 32 (Operand.tmp 7) 1, g := none },
                                { dst := some 28, op := Op.load 3 (Operand.tmp 27), g := none },
                                { dst := some 29, op := Op.move (Operand.tmp 1), g := none },
                                { dst := some 30, op := Op.binOp BinOp.eql 3 (Operand.tmp 28) (Operand.tmp 29) 3,
                                  g := none }]
                              { lo := 27, hi := 29, xs := [] } [])
                            (AC.cond (Operand.tmp 30)
                              (AC.reg
                                [{ dst := some 31, op := Op.move (Operand.tmp 5), g := none },
                                  { dst := some 32, op := Op.move (Operand.tmp 1), g := none },
                                  { dst := some 33, op := Op.fieldAddr 32 (Operand.tmp 7) 0, g := none },
                                  { dst := some 34, op := Op.load 3 (Operand.tmp 33), g := none },
                                  { dst := some 35, op := Op.fieldAddr 32 (Operand.tmp 7) 2, g := none },
                                  { dst := some 36, op := Op.load 3 (Operand.tmp 35), g := none },
                                  { dst := some 37,
                                    op :=
                                      Op.build 44
                                        #[(0, Operand.tmp 32), (2, Operand.tmp 34), (3, Operand.tmp 36)],
                                    g := none },
                                  { dst := some 38, op := Op.buildSlice 29 1 #[(0, Operand.tmp 37)],
                                    g := none },
                                  { dst := some 39,
                                    op :=
                                      Op.call
                                        { callee := Callee.builtin Builtin.append,
                                          args := #[Operand.tmp 31, Operand.tmp 38],
                                          argTypes := #[29, 29] },
                                    g := none },
                                  { dst := some 5, op := Op.assign (Operand.tmp 39), g := none }]
                                { lo := 31, hi := 39, xs := [] } [])
                              AC.skip)))))
                    (AC.reg
                      [{ dst := some 40,
                          op :=
                            Op.binOp BinOp.add 3 (Operand.tmp 10) (Operand.const (Value.int IntKind.i64 1)) 3,
                          g := none },
                        { dst := some 10, op := Op.move (Operand.tmp 40), g := none }]
                      { lo := 40, hi := 40, xs := [] } [])))))))
        (AC.seq
          (AC.reg
            [{ dst := some 41, op := Op.move (Operand.tmp 5), g := none },
              { dst := some 4, op := Op.assign (Operand.tmp 41), g := none }]
            { lo := 41, hi := 41, xs := [] } [])
          AC.ret)))

theorem e25 : slim (Try.f25.body.getD .skip) = c25 := by kernel_rfl
theorem b25 : Try.f25.body = some (Try.f25.body.getD .skip) := by kernel_rfl
theorem d25 : textOk Try.prog 42 (Try.f25.body.getD .skip) = true := by kernel_rfl
theorem r25 : Try.f25.results.toList = [ResultVar.tmp 4] := by kernel_rfl
theorem n25 : Try.f25.name ≠ "runtime.NumGoroutine" := by decide

def c26 : AC :=
  AC.seq
    (AC.reg [{ dst := some 2, op := Op.assign (Operand.const (Value.bool false)), g := none }]
      { lo := 1, hi := 0, xs := [] } [])
    (AC.seq
      (AC.reg [{ dst := some 3, op := Op.assign (Operand.const (Value.int IntKind.i64 0)), g := none }]
        { lo := 1, hi := 0, xs := [] } [])
      (AC.seq
        (AC.seq
          (AC.reg [{ dst := some 4, op := Op.assign (Operand.const (Value.int IntKind.i64 0)), g := none }]
            { lo := 1, hi := 0, xs := [] } [])
          (AC.block 0
            (AC.loop
              (AC.seq
                (AC.seq
                  (AC.reg
                    [{ dst := some 5, op := Op.move (Operand.tmp 4), g := none },
                      { dst := some 6, op := Op.move (Operand.tmp 0), g := none },
                      { dst := some 7,
                        op :=
                          Op.call
                            { callee := Callee.builtin Builtin.len, args := #[Operand.tmp 6],
                              argTypes := #[24] },
                        g := none },
                      { dst := some 8, op := Op.binOp BinOp.lss 3 (Operand.tmp 5) (Operand.tmp 7) 3, g := none }]
                    { lo := 5, hi := 7, xs := [] } [])
                  (AC.cond (Operand.tmp 8) AC.skip (AC.exit 0)))
                (AC.seq
                  (AC.block 1
                    (AC.reg
                      [{ dst := some 11, op := Op.move (Operand.tmp 3), g := none },
                        { dst := some 12, op := Op.move (Operand.tmp 0), g := none },
                        { dst := some 13, op := Op.move (Operand.tmp 4), g := none },
                        { dst := some 14, op := Op.indexAddr 24 (Operand.tmp 12) (Operand.tmp 13), g := none },
                        { dst := some 15, op := Op.load 29 (Operand.tmp 14), g := none },
                        { dst := some 16,
                          op :=
                            Op.call
                              { callee := Callee.builtin Builtin.len, args := #[Operand.tmp 15],
                                argTypes := #[29] },
                          g := none },
                        { dst := some 17, op := Op.binOp BinOp.add 3 (Operand.tmp 11) (Operand.tmp 16) 3, g := none },
                        { dst := some 3, op := Op.assign (Operand.tmp 17), g := none }]
                      { lo := 11, hi := 17, xs := [] } []))
                  (AC.reg
                    [{ dst := some 9, op := Op.move (Operand.tmp 4), g := none },
                      { dst := some 10,
                        op :=
                          Op.binOp BinOp.add 3 (Operand.tmp 9) (Operand.const (Value.int IntKind.i64 1)) 3,
                        g := none },
                      { dst := some 4, op := Op.assign (Operand.tmp 10), g := none }]
                    { lo := 9, hi := 10, xs := [] } []))))))
        (AC.seq
          (AC.reg
            [{ dst := some 18, op := Op.move (Operand.tmp 0), g := none },
              { dst := some 19,
                op :=
                  Op.call
                    { callee := Callee.builtin Builtin.len, args := #[Operand.tmp 18],
                      argTypes := #[24] },
                g := none },
              { dst := some 20,
                op := Op.binOp BinOp.leq 3 (Operand.tmp 19) (Operand.const (Value.int IntKind.i64 8)) 3,
                g := none },
              { dst := some 21, op := Op.move (Operand.tmp 20), g := none },
              { dst := some 22, op := Op.move (Operand.tmp 3), g := some (21, true) },
              { dst := some 23,
                op := Op.binOp BinOp.leq 3 (Operand.tmp 22) (Operand.const (Value.int IntKind.i64 60)) 3,
                g := some (21, true) },
              { dst := some 24, op := Op.pick (Operand.tmp 21) (Operand.tmp 23) (Operand.const (Value.bool false)),
                g := none },
              { dst := some 2, op := Op.assign (Operand.tmp 24), g := none }]
            { lo := 18, hi := 24, xs := [] } [])
          AC.ret)))

theorem e26 : slim (Try.f26.body.getD .skip) = c26 := by kernel_rfl
theorem b26 : Try.f26.body = some (Try.f26.body.getD .skip) := by kernel_rfl
theorem d26 : textOk Try.prog 25 (Try.f26.body.getD .skip) = true := by kernel_rfl
theorem r26 : Try.f26.results.toList = [ResultVar.tmp 2] := by kernel_rfl
theorem n26 : Try.f26.name ≠ "runtime.NumGoroutine" := by decide

def c30 : AC :=
  AC.seq
    (AC.reg [{ dst := some 4, op := Op.assign (Operand.const (Value.slice none 0 0)), g := none }]
      { lo := 1, hi := 0, xs := [] } [])
    (AC.seq
      (AC.reg [{ dst := some 5, op := Op.assign (Operand.const (Value.slice none 0 0)), g := none }]
        { lo := 1, hi := 0, xs := [] } [])
      (AC.seq
        (AC.seq
          (AC.reg [{ dst := some 6, op := Op.assign (Operand.const (Value.int IntKind.i64 0)), g := none }]
            { lo := 1, hi := 0, xs := [] } [])
          (AC.block 0
            (AC.loop
              (AC.seq
                (AC.seq
                  (AC.reg
                    [{ dst := some 8, op := Op.move (Operand.tmp 6), g := none },
                      { dst := some 9, op := Op.move (Operand.tmp 0), g := none },
                      { dst := some 10,
                        op :=
                          Op.call
                            { callee := Callee.builtin Builtin.len, args := #[Operand.tmp 9],
                              argTypes := #[22] },
                        g := none },
                      { dst := some 11, op := Op.binOp BinOp.lss 3 (Operand.tmp 8) (Operand.tmp 10) 3, g := none }]
                    { lo := 8, hi := 10, xs := [] } [])
                  (AC.cond (Operand.tmp 11) AC.skip (AC.exit 0)))
                (AC.seq
                  (AC.block 1
                    (AC.seq
                      (AC.reg
                        [{ dst := some 14, op := Op.move (Operand.tmp 0), g := none },
                          { dst := some 15, op := Op.move (Operand.tmp 6), g := none },
                          { dst := some 16, op := Op.indexAddr 22 (Operand.tmp 14) (Operand.tmp 15), g := none },
                          { dst := some 17, op := Op.load 32 (Operand.tmp 16), g := none },
                          { dst := some 7, op := Op.alloc 32, g := none },
                          { dst := none, op := Op.store 32 (Operand.tmp 7) (Operand.tmp 17), g := none }]
                        { lo := 14, hi := 17, xs := [] } [])
                      (AC.seq
                        (AC.seq
                          (AC.reg
                            [{ dst := some 18, op := Op.fieldAddr 32 (Operand.tmp 7) 0, g := none },
                              { dst := some 19, op := Op.load 3 (Operand.tmp 18), g := none },
                              { dst := some 20, op := Op.move (Operand.tmp 1), g := none },
                              { dst := some 21, op := Op.binOp BinOp.eql 3 (Operand.tmp 19) (Operand.tmp 20) 3,
                                g := none }]
                            { lo := 18, hi := 20, xs := [] } [])
                          (AC.cond (Operand.tmp 21)
                            (AC.reg
                              [{ dst := some 22, op := Op.move (Operand.tmp 5), g := none },
                                { dst := some 23, op := Op.move (Operand.tmp 1), g := none },
                                { dst := some 24, op := Op.fieldAddr 32 (Operand.tmp 7) 1, g := none },
                                { dst := some 25, op := Op.load 3 (Operand.tmp 24), g := none },
                                { dst := some 26, op := Op.fieldAddr 32 (Operand.tmp 7) 2, g := none },
                                { dst := some 27, op := Op.load 3 (Operand.tmp 26), g := none },
                                { dst := some 28,
                                  op :=
                                    Op.build 44
                                      #[(0, Operand.tmp 23), (1, Operand.const (Value.bool true)), (2, Operand.tmp 25),
                                            (3, Operand.tmp 27)],
                                  g := none },
                                { dst := some 29, op := Op.buildSlice 29 1 #[(0, Operand.tmp 28)],
                                  g := none },
                                { dst := some 30,
                                  op :=
                                    Op.call
                                      { callee := Callee.builtin Builtin.append,
                                        args := #[Operand.tmp 22, Operand.tmp 29],
                                        argTypes := #[29, 29] },
                                  g := none },
                                { dst := some 5, op := Op.assign (Operand.tmp 30), g := none }]
                              { lo := 22, hi := 30, xs := [] } [])
                            AC.skip))
                        (AC.seq
                          (AC.reg
                            [{ dst := some 31, op := Op.fieldAddr 32 (Operand.tmp 7) 1, g := none },
                              { dst := some 32, op := Op.load 3 (Operand.tmp 31), g := none },
                              { dst := some 33, op := Op.move (Operand.tmp 1), g := none },
                              { dst := some 34, op := Op.binOp BinOp.eql 3 (Operand.tmp 32) (Operand.tmp 33) 3,
                                g := none }]
                            { lo := 31, hi := 33, xs := [] } [])
                          (AC.cond (Operand.tmp 34)
                            (AC.reg
                              [{ dst := some 35, op := Op.move (Operand.tmp 5), g := none },
                                { dst := some 36, op := Op.move (Operand.tmp 1), g := none },
                                { dst := some 37, op := Op.fieldAddr 32 (Operand.tmp 7) 0, g := none },
                                { dst := some 38, op := Op.load 3 (Operand.tmp 37), g := none },
                                { dst := some 39, op := Op.fieldAddr 32 (Operand.tmp 7) 2, g := none },
                                { dst := some 40, op := Op.load 3 (Operand.tmp 39), g := none },
                                { dst := some 41,
                                  op :=
                                    Op.build 44
                                      #[(0, Operand.tmp 36), (2, Operand.tmp 38), (3, Operand.tmp 40)],
                                  g := none },
                                { dst := some 42, op := Op.buildSlice 29 1 #[(0, Operand.tmp 41)],
                                  g := none },
                                { dst := some 43,
                                  op :=
                                    Op.call
                                      { callee := Callee.builtin Builtin.append,
                                        args := #[Operand.tmp 35, Operand.tmp 42],
                                        argTypes := #[29, 29] },
                                  g := none },
                                { dst := some 5, op := Op.assign (Operand.tmp 43), g := none }]
                              { lo := 35, hi := 43, xs := [] } [])
                            AC.skip)))))
                  (AC.reg
                    [{ dst := some 12, op := Op.move (Operand.tmp 6), g := none },
                      { dst := some 13,
                        op :=
                          Op.binOp BinOp.add 3 (Operand.tmp 12) (Operand.const (Value.int IntKind.i64 1)) 3,
                        g := none },
                      { dst := some 6, op := Op.assign (Operand.tmp 13), g := none }]
                    { lo := 12, hi := 13, xs := [] } []))))))
        (AC.seq
          (AC.reg
            [{ dst := some 44, op := Op.move (Operand.tmp 5), g := none },
              { dst := some 4, op := Op.assign (Operand.tmp 44), g := none }]
            { lo := 44, hi := 44, xs := [] } [])
          AC.ret)))

theorem e30 : slim (Try.f30.body.getD .skip) = c30 := by kernel_rfl
theorem b30 : Try.f30.body = some (Try.f30.body.getD .skip) := by kernel_rfl
theorem d30 : textOk Try.prog 45 (Try.f30.body.getD .skip) = true := by kernel_rfl
theorem r30 : Try.f30.results.toList = [ResultVar.tmp 4] := by kernel_rfl
theorem n30 : Try.f30.name ≠ "runtime.NumGoroutine" := by decide

def c31 : AC :=
  AC.seq
    (AC.reg [{ dst := some 4, op := Op.assign (Operand.const (Value.bool false)), g := none }]
      { lo := 1, hi := 0, xs := [] } [])
    (AC.seq
      (AC.seq
        (AC.reg
          [{ dst := some 6, op := Op.move (Operand.tmp 0), g := none },
            { dst := some 7,
              op :=
                Op.call
                  { callee := Callee.builtin Builtin.len, args := #[Operand.tmp 6],
                    argTypes := #[22] },
              g := none },
            { dst := some 8, op := Op.move (Operand.tmp 1), g := none },
            { dst := some 9,
              op :=
                Op.call
                  { callee := Callee.builtin Builtin.len, args := #[Operand.tmp 8],
                    argTypes := #[22] },
              g := none },
            { dst := some 10, op := Op.binOp BinOp.neq 3 (Operand.tmp 7) (Operand.tmp 9) 3, g := none }]
          { lo := 6, hi := 9, xs := [] } [])
        (AC.cond (Operand.tmp 10)
          (AC.seq
            (AC.reg [{ dst := some 4, op := Op.assign (Operand.const (Value.bool false)), g := none }]
              { lo := 1, hi := 0, xs := [] } [])
            AC.ret)
          AC.skip))
      (AC.seq
        (AC.seq
          (AC.reg
            [{ dst := some 11, op := Op.move (Operand.tmp 0), g := none },
              { dst := some 12,
                op :=
                  Op.call
                    { callee := Callee.builtin Builtin.len, args := #[Operand.tmp 11],
                      argTypes := #[22] },
                g := none },
              { dst := some 13, op := Op.move (Operand.const (Value.int IntKind.i64 0)), g := none }]
            { lo := 11, hi := 11, xs := [] } [])
          (AC.block 0
            (AC.loop
              (AC.seq
                (AC.reg [{ dst := some 14, op := Op.binOp BinOp.lss 3 (Operand.tmp 13) (Operand.tmp 12) 3, g := none }]
                  { lo := 1, hi := 0, xs := [] } [])
                (AC.seq (AC.cond (Operand.tmp 14) AC.skip (AC.exit 0))
                  (AC.seq
                    (AC.block 1
                      (AC.seq
                        (AC.reg
                          [{ dst := some 15, op := Op.move (Operand.tmp 13), g := none },
                            { dst := some 5, op := Op.assign (Operand.tmp 15), g := none }]
                          { lo := 15, hi := 15, xs := [] } [])
                        (AC.seq
                          (AC.drw
                            [{ o := { dst := some 16, op := Op.move (Operand.tmp 0), g := none }, kn := [] },
                              { o := { dst := some 17, op := Op.move (Operand.tmp 5), g := none }, kn := [] },
                              {
                                o :=
                                  { dst := some 18, op := Op.indexAddr 22 (Operand.tmp 16) (Operand.tmp 17), g := none },
                                kn := [16, 17] },
                              { o := { dst := some 19, op := Op.load 32 (Operand.tmp 18), g := none },
                                kn := [18, 16, 17] },
                              { o := { dst := some 20, op := Op.move (Operand.tmp 1), g := none }, kn := [] },
                              { o := { dst := some 21, op := Op.move (Operand.tmp 5), g := none }, kn := [] },
                              {
                                o :=
                                  { dst := some 22, op := Op.indexAddr 22 (Operand.tmp 20) (Operand.tmp 21), g := none },
                                kn := [20, 21] },
                              { o := { dst := some 23, op := Op.load 32 (Operand.tmp 22), g := none },
                                kn := [22, 20, 21] },
                              {
                                o :=
                                  { dst := some 24, op := Op.binOp BinOp.neq 32 (Operand.tmp 19) (Operand.tmp 23) 32,
                                    g := none },
                                kn := [19, 18, 16, 17, 23, 22, 20, 21] }]
                            [] { lo := 16, hi := 24, xs := [] } { lo := 16, hi := 23, xs := [] } [])
                          (AC.cond (Operand.tmp 24)
                            (AC.seq
                              (AC.reg [{ dst := some 4, op := Op.assign (Operand.const (Value.bool false)), g := none }]
                                { lo := 1, hi := 0, xs := [] } [])
                              AC.ret)
                            AC.skip))))
                    (AC.reg
                      [{ dst := some 25,
                          op :=
                            Op.binOp BinOp.add 3 (Operand.tmp 13) (Operand.const (Value.int IntKind.i64 1)) 3,
                          g := none },
                        { dst := some 13, op := Op.move (Operand.tmp 25), g := none }]
                      { lo := 25, hi := 25, xs := [] } [])))))))
        (AC.seq
          (AC.reg [{ dst := some 4, op := Op.assign (Operand.const (Value.bool true)), g := none }]
            { lo := 1, hi := 0, xs := [] } [])
          AC.ret)))

theorem e31 : slim (Try.f31.body.getD .skip) = c31 := by kernel_rfl
theorem b31 : Try.f31.body = some (Try.f31.body.getD .skip) := by kernel_rfl
theorem d31 : textOk Try.prog 26 (Try.f31.body.getD .skip) = true := by kernel_rfl
theorem r31 : Try.f31.results.toList = [ResultVar.tmp 4] := by kernel_rfl
theorem n31 : Try.f31.name ≠ "runtime.NumGoroutine" := by decide

def c32 : AC :=
  AC.seq
    (AC.reg [{ dst := some 2, op := Op.assign (Operand.const (Value.slice none 0 0)), g := none }]
      { lo := 1, hi := 0, xs := [] } [])
    (AC.seq
      (AC.seq
        (AC.reg
          [{ dst := some 3, op := Op.move (Operand.tmp 0), g := none },
            { dst := some 4, op := Op.binOp BinOp.eql 22 (Operand.tmp 3) (Operand.const (Value.slice none 0 0)) 22,
              g := none }]
          { lo := 3, hi := 3, xs := [] } [])
        (AC.cond (Operand.tmp 4)
          (AC.seq
            (AC.reg [{ dst := some 2, op := Op.assign (Operand.const (Value.slice none 0 0)), g := none }]
              { lo := 1, hi := 0, xs := [] } [])
            AC.ret)
          AC.skip))
      (AC.seq
        (AC.reg
          [{ dst := some 5, op := Op.buildSlice 22 0 #[], g := none },
            { dst := some 6, op := Op.move (Operand.tmp 0), g := none },
            { dst := some 7,
              op :=
                Op.call
                  { callee := Callee.builtin Builtin.append, args := #[Operand.tmp 5, Operand.tmp 6],
                    argTypes := #[22, 22] },
              g := none },
            { dst := some 2, op := Op.assign (Operand.tmp 7), g := none }]
          { lo := 5, hi := 7, xs := [] } [])
        AC.ret))

theorem e32 : slim (Try.f32.body.getD .skip) = c32 := by kernel_rfl
theorem b32 : Try.f32.body = some (Try.f32.body.getD .skip) := by kernel_rfl
theorem d32 : textOk Try.prog 8 (Try.f32.body.getD .skip) = true := by kernel_rfl
theorem r32 : Try.f32.results.toList = [ResultVar.tmp 2] := by kernel_rfl
theorem n32 : Try.f32.name ≠ "runtime.NumGoroutine" := by decide

def c33 : AC :=
  AC.seq
    (AC.reg
      [{ dst := some 2, op := Op.box 32 (Operand.tmp 0), g := none },
        { dst := some 3, op := Op.box 32 (Operand.tmp 1), g := none },
        { dst := some 4, op := Op.assign (Operand.const (Value.int IntKind.i64 0)), g := none }]
      { lo := 1, hi := 0, xs := [] } [])
    (AC.seq
      (AC.drw
        [{ o := { dst := some 7, op := Op.fieldAddr 32 (Operand.tmp 2) 0, g := none }, kn := [] },
          { o := { dst := some 8, op := Op.load 3 (Operand.tmp 7), g := none }, kn := [7] },
          { o := { dst := some 9, op := Op.fieldAddr 32 (Operand.tmp 2) 1, g := none }, kn := [] },
          { o := { dst := some 10, op := Op.load 3 (Operand.tmp 9), g := none }, kn := [9] },
          { o := { dst := some 11, op := Op.fieldAddr 32 (Operand.tmp 2) 2, g := none }, kn := [] },
          { o := { dst := some 12, op := Op.load 3 (Operand.tmp 11), g := none }, kn := [11] },
          {
            o :=
              { dst := some 13,
                op := Op.build 55 #[(0, Operand.tmp 8), (1, Operand.tmp 10), (2, Operand.tmp 12)],
                g := none },
            kn := [8, 7, 10, 9, 12, 11] },
          { o := { dst := some 14, op := Op.fieldAddr 32 (Operand.tmp 3) 0, g := none }, kn := [] },
          { o := { dst := some 15, op := Op.load 3 (Operand.tmp 14), g := none }, kn := [14] },
          { o := { dst := some 16, op := Op.fieldAddr 32 (Operand.tmp 3) 1, g := none }, kn := [] },
          { o := { dst := some 17, op := Op.load 3 (Operand.tmp 16), g := none }, kn := [16] },
          { o := { dst := some 18, op := Op.fieldAddr 32 (Operand.tmp 3) 2, g := none }, kn := [] },
          { o := { dst := some 19, op := Op.load 3 (Operand.tmp 18), g := none }, kn := [18] },
          {
            o :=
              { dst := some 20,
                op := Op.build 55 #[(0, Operand.tmp 15), (1, Operand.tmp 17), (2, Operand.tmp 19)],
                g := none },
            kn := [15, 14, 17, 16, 19, 18] },
          { o := { dst := some 5, op := Op.alloc 55, g := none }, kn := [] },
          { o := { dst := some 6, op := Op.alloc 55, g := none }, kn := [] }]
        [{ o := { dst := none, op := Op.store 55 (Operand.tmp 5) (Operand.tmp 13), g := none },
            kn := [5, 13, 8, 7, 10, 9, 12, 11],
            un :=
              [false, false, false, false, false, false, false, true, true, true, true, true, true, true, false, false] },
          { o := { dst := none, op := Op.store 55 (Operand.tmp 6) (Operand.tmp 20), g := none },
            kn := [6, 20, 15, 14, 17, 16, 19, 18], un := [] }]
        { lo := 7, hi := 20, xs := [5, 6] } { lo := 7, hi := 20, xs := [] } [])
      (AC.seq
        (AC.drw
          [{ o := { dst := some 21, op := Op.slice 55 (Operand.tmp 5) none none none, g := none }, kn := [] },
            { o := { dst := some 22, op := Op.slice 55 (Operand.tmp 6) none none none, g := none }, kn := [] },
            {
              o :=
                { dst := some 23,
                  op :=
                    Op.call
                      { callee := Callee.value (Operand.func 42), args := #[Operand.tmp 21, Operand.tmp 22],
                        argTypes := #[51, 51] },
                  g := none },
              kn := [21, 22] }]
          [{ o := { dst := some 4, op := Op.assign (Operand.tmp 23), g := none }, kn := [23, 21, 22], un := [] }]
          { lo := 21, hi := 23, xs := [] } { lo := 21, hi := 23, xs := [] } [])
        AC.ret))

theorem e33 : slim (Try.f33.body.getD .skip) = c33 := by kernel_rfl
theorem b33 : Try.f33.body = some (Try.f33.body.getD .skip) := by kernel_rfl
theorem d33 : textOk Try.prog 24 (Try.f33.body.getD .skip) = true := by kernel_rfl
theorem r33 : Try.f33.results.toList = [ResultVar.tmp 4] := by kernel_rfl
theorem n33 : Try.f33.name ≠ "runtime.NumGoroutine" := by decide

def c35 : AC :=
  AC.seq
    (AC.reg [{ dst := some 2, op := Op.assign (Operand.const (Value.bool false)), g := none }]
      { lo := 1, hi := 0, xs := [] } [])
    (AC.seq
      (AC.seq
        (AC.reg
          [{ dst := some 7, op := Op.move (Operand.tmp 0), g := none },
            { dst := some 8,
              op :=
                Op.call
                  { callee := Callee.builtin Builtin.len, args := #[Operand.tmp 7],
                    argTypes := #[24] },
              g := none },
            { dst := some 9, op := Op.move (Operand.const (Value.int IntKind.i64 0)), g := none }]
          { lo := 1, hi := 0, xs := [] } [])
        (AC.block 0
          (AC.loop
            (AC.seq
              (AC.reg [{ dst := some 10, op := Op.binOp BinOp.lss 3 (Operand.tmp 9) (Operand.tmp 8) 3, g := none }]
                { lo := 1, hi := 0, xs := [] } [])
              (AC.seq (AC.cond (Operand.tmp 10) AC.skip (AC.exit 0))
                (AC.seq
                  (AC.block 1
                    (AC.seq
                      (AC.reg
                        [{ dst := some 11, op := Op.move (Operand.tmp 9), g := none },
                          { dst := some 12, op := Op.indexAddr 24 (Operand.tmp 7) (Operand.tmp 9), g := none },
                          { dst := some 13, op := Op.load 29 (Operand.tmp 12), g := none },
                          { dst := some 3, op := Op.assign (Operand.tmp 11), g := none },
                          { dst := some 4, op := Op.assign (Operand.tmp 13), g := none }]
                        { lo := 11, hi := 13, xs := [] } [])
                      (AC.seq
                        (AC.reg
                          [{ dst := some 14, op := Op.move (Operand.tmp 4), g := none },
                            { dst := some 15,
                              op :=
                                Op.call
                                  { callee := Callee.builtin Builtin.len, args := #[Operand.tmp 14],
                                    argTypes := #[29] },
                              g := none },
                            { dst := some 16, op := Op.move (Operand.const (Value.int IntKind.i64 0)),
                              g := none }]
                          { lo := 1, hi := 0, xs := [] } [])
                        (AC.block 2
                          (AC.loop
                            (AC.seq
                              (AC.reg
                                [{ dst := some 17, op := Op.binOp BinOp.lss 3 (Operand.tmp 16) (Operand.tmp 15) 3,
                                    g := none }]
                                { lo := 1, hi := 0, xs := [] } [])
                              (AC.seq (AC.cond (Operand.tmp 17) AC.skip (AC.exit 2))
                                (AC.seq
                                  (AC.block 3
                                    (AC.seq
                                      (AC.reg
                                        [{ dst := some 18, op := Op.indexAddr 29 (Operand.tmp 14) (Operand.tmp 16),
                                            g := none },
                                          { dst := some 19, op := Op.load 44 (Operand.tmp 18), g := none },
                                          { dst := some 6, op := Op.alloc 44, g := none },
                                          { dst := none, op := Op.store 44 (Operand.tmp 6) (Operand.tmp 19), g := none }]
                                        { lo := 18, hi := 19, xs := [] } [])
                                      (AC.seq
                                        (AC.reg
                                          [{ dst := some 20, op := Op.fieldAddr 44 (Operand.tmp 6) 0, g := none },
                                            { dst := some 21, op := Op.load 3 (Operand.tmp 20), g := none },
                                            { dst := some 22, op := Op.move (Operand.tmp 3), g := none },
                                            { dst := some 23,
                                              op := Op.binOp BinOp.neq 3 (Operand.tmp 21) (Operand.tmp 22) 3, g := none },
                                            { dst := some 24, op := Op.move (Operand.tmp 23), g := none },
                                            { dst := some 25, op := Op.fieldAddr 44 (Operand.tmp 6) 2,
                                              g := some (24, false) },
                                            { dst := some 26, op := Op.load 3 (Operand.tmp 25), g := some (24, false) },
                                            { dst := some 27, op := Op.move (Operand.tmp 3), g := some (24, false) },
                                            { dst := some 28,
                                              op := Op.binOp BinOp.eql 3 (Operand.tmp 26) (Operand.tmp 27) 3,
                                              g := some (24, false) },
                                            { dst := some 29,
                                              op :=
                                                Op.pick (Operand.tmp 24) (Operand.const (Value.bool true))
                                                  (Operand.tmp 28),
                                              g := none },
                                            { dst := some 30, op := Op.move (Operand.tmp 29), g := none },
                                            { dst := some 31, op := Op.fieldAddr 44 (Operand.tmp 6) 2,
                                              g := some (30, false) },
                                            { dst := some 32, op := Op.load 3 (Operand.tmp 31), g := some (30, false) },
                                            { dst := some 33,
                                              op :=
                                                Op.binOp BinOp.lss 3 (Operand.tmp 32)
                                                  (Operand.const (Value.int IntKind.i64 0)) 3,
                                              g := some (30, false) },
                                            { dst := some 34,
                                              op :=
                                                Op.pick (Operand.tmp 30) (Operand.const (Value.bool true))
                                                  (Operand.tmp 33),
                                              g := none },
                                            { dst := some 35, op := Op.move (Operand.tmp 34), g := none },
                                            { dst := some 36, op := Op.fieldAddr 44 (Operand.tmp 6) 2,
                                              g := some (35, false) },
                                            { dst := some 37, op := Op.load 3 (Operand.tmp 36), g := some (35, false) },
                                            { dst := some 38, op := Op.move (Operand.tmp 0), g := some (35, false) },
                                            { dst := some 39,
                                              op :=
                                                Op.call
                                                  { callee := Callee.builtin Builtin.len,
                                                    args := #[Operand.tmp 38],
                                                    argTypes := #[24] },
                                              g := some (35, false) },
                                            { dst := some 40,
                                              op := Op.binOp BinOp.geq 3 (Operand.tmp 37) (Operand.tmp 39) 3,
                                              g := some (35, false) },
                                            { dst := some 41,
                                              op :=
                                                Op.pick (Operand.tmp 35) (Operand.const (Value.bool true))
                                                  (Operand.tmp 40),
                                              g := none }]
                                          { lo := 20, hi := 40, xs := [] } [])
                                        (AC.cond (Operand.tmp 41)
                                          (AC.seq
                                            (AC.reg
                                              [{ dst := some 2, op := Op.assign (Operand.const (Value.bool false)),
                                                  g := none }]
                                              { lo := 1, hi := 0, xs := [] } [])
                                            AC.ret)
                                          AC.skip))))
                                  (AC.reg
                                    [{ dst := some 42,
                                        op :=
                                          Op.binOp BinOp.add 3 (Operand.tmp 16)
                                            (Operand.const (Value.int IntKind.i64 1)) 3,
                                        g := none },
                                      { dst := some 16, op := Op.move (Operand.tmp 42), g := none }]
                                    { lo := 42, hi := 42, xs := [] } [])))))))))
                  (AC.reg
                    [{ dst := some 43,
                        op :=
                          Op.binOp BinOp.add 3 (Operand.tmp 9) (Operand.const (Value.int IntKind.i64 1)) 3,
                        g := none },
                      { dst := some 9, op := Op.move (Operand.tmp 43), g := none }]
                    { lo := 43, hi := 43, xs := [] } [])))))))
      (AC.seq
        (AC.reg
          [{ dst := some 44, op := Op.move (Operand.tmp 0), g := none },
            { dst := some 45,
              op :=
                Op.call
                  { callee := Callee.builtin Builtin.len, args := #[Operand.tmp 44],
                    argTypes := #[24] },
              g := none },
            { dst := some 46,
              op := Op.binOp BinOp.leq 3 (Operand.tmp 45) (Operand.const (Value.int IntKind.i64 6)) 3,
              g := none },
            { dst := some 2, op := Op.assign (Operand.tmp 46), g := none }]
          { lo := 44, hi := 46, xs := [] } [])
        AC.ret))

theorem e35 : slim (Try.f35.body.getD .skip) = c35 := by kernel_rfl
theorem b35 : Try.f35.body = some (Try.f35.body.getD .skip) := by kernel_rfl
theorem d35 : textOk Try.prog 47 (Try.f35.body.getD .skip) = true := by kernel_rfl
theorem r35 : Try.f35.results.toList = [ResultVar.tmp 2] := by kernel_rfl
theorem n35 : Try.f35.name ≠ "runtime.NumGoroutine" := by decide

def c36 : AC :=
  AC.seq
    (AC.reg [{ dst := some 2, op := Op.assign (Operand.const (Value.slice none 0 0)), g := none }]
      { lo := 1, hi := 0, xs := [] } [])
    (AC.seq
      (AC.seq
        (AC.reg
          [{ dst := some 3, op := Op.move (Operand.tmp 0), g := none },
            { dst := some 4, op := Op.binOp BinOp.eql 24 (Operand.tmp 3) (Operand.const (Value.slice none 0 0)) 24,
              g := none }]
          { lo := 3, hi := 3, xs := [] } [])
        (AC.cond (Operand.tmp 4)
          (AC.seq
            (AC.reg [{ dst := some 2, op := Op.assign (Operand.const (Value.slice none 0 0)), g := none }]
              { lo := 1, hi := 0, xs := [] } [])
            AC.ret)
          AC.skip))
      (AC.seq
        (AC.reg
          [{ dst := some 5, op := Op.buildSlice 24 0 #[], g := none },
            { dst := some 6, op := Op.move (Operand.tmp 0), g := none },
            { dst := some 7,
              op :=
                Op.call
                  { callee := Callee.builtin Builtin.append, args := #[Operand.tmp 5, Operand.tmp 6],
                    argTypes := #[24, 24] },
              g := none },
            { dst := some 2, op := Op.assign (Operand.tmp 7), g := none }]
          { lo := 5, hi := 7, xs := [] } [])
        AC.ret))

theorem e36 : slim (Try.f36.body.getD .skip) = c36 := by kernel_rfl
theorem b36 : Try.f36.body = some (Try.f36.body.getD .skip) := by kernel_rfl
theorem d36 : textOk Try.prog 8 (Try.f36.body.getD .skip) = true := by kernel_rfl
theorem r36 : Try.f36.results.toList = [ResultVar.tmp 2] := by kernel_rfl
theorem n36 : Try.f36.name ≠ "runtime.NumGoroutine" := by decide

def c37 : AC :=
  AC.seq
    (AC.reg [{ dst := some 2, op := Op.assign (Operand.const (Value.bool false)), g := none }]
      { lo := 1, hi := 0, xs := [] } [])
    (AC.seq
      (AC.seq
        (AC.reg [{ dst := some 3, op := Op.assign (Operand.const (Value.int IntKind.i64 0)), g := none }]
          { lo := 1, hi := 0, xs := [] } [])
        (AC.block 0
          (AC.loop
            (AC.seq
              (AC.seq
                (AC.reg
                  [{ dst := some 6, op := Op.move (Operand.tmp 3), g := none },
                    { dst := some 7, op := Op.move (Operand.tmp 0), g := none },
                    { dst := some 8,
                      op :=
                        Op.call
                          { callee := Callee.builtin Builtin.len, args := #[Operand.tmp 7],
                            argTypes := #[24] },
                      g := none },
                    { dst := some 9, op := Op.binOp BinOp.lss 3 (Operand.tmp 6) (Operand.tmp 8) 3, g := none }]
                  { lo := 6, hi := 8, xs := [] } [])
                (AC.cond (Operand.tmp 9) AC.skip (AC.exit 0)))
              (AC.seq
                (AC.block 1
                  (AC.seq
                    (AC.reg
                      [{ dst := some 4, op := Op.assign (Operand.const (Value.int IntKind.i64 0)),
                          g := none }]
                      { lo := 1, hi := 0, xs := [] } [])
                    (AC.block 2
                      (AC.loop
                        (AC.seq
                          (AC.seq
                            (AC.reg
                              [{ dst := some 12, op := Op.move (Operand.tmp 4), g := none },
                                { dst := some 13, op := Op.move (Operand.tmp 0), g := none },
                                { dst := some 14, op := Op.move (Operand.tmp 3), g := none },
                                { dst := some 15, op := Op.indexAddr 24 (Operand.tmp 13) (Operand.tmp 14), g := none },
                                { dst := some 16, op := Op.load 29 (Operand.tmp 15), g := none },
                                { dst := some 17,
                                  op :=
                                    Op.call
                                      { callee := Callee.builtin Builtin.len, args := #[Operand.tmp 16],
                                        argTypes := #[29] },
                                  g := none },
                                { dst := some 18, op := Op.binOp BinOp.lss 3 (Operand.tmp 12) (Operand.tmp 17) 3,
                                  g := none }]
                              { lo := 12, hi := 17, xs := [] } [])
                            (AC.cond (Operand.tmp 18) AC.skip (AC.exit 2)))
                          (AC.seq
                            (AC.block 3
                              (AC.seq
                                (AC.reg
                                  [{ dst := some 21, op := Op.move (Operand.tmp 0), g := none },
                                    { dst := some 22, op := Op.move (Operand.tmp 3), g := none },
                                    { dst := some 23, op := Op.indexAddr 24 (Operand.tmp 21) (Operand.tmp 22),
                                      g := none },
                                    { dst := some 24, op := Op.load 29 (Operand.tmp 23), g := none },
                                    { dst := some 25, op := Op.move (Operand.tmp 4), g := none },
                                    { dst := some 26, op := Op.indexAddr 29 (Operand.tmp 24) (Operand.tmp 25),
                                      g := none },
                                    { dst := some 27, op := Op.load 44 (Operand.tmp 26), g := none },
                                    { dst := some 5, op := Op.alloc 44, g := none },
                                    { dst := none, op := Op.store 44 (Operand.tmp 5) (Operand.tmp 27), g := none }]
                                  { lo := 21, hi := 27, xs := [] } [])
                                (AC.seq
                                  (AC.reg
                                    [{ dst := some 28, op := Op.fieldAddr 44 (Operand.tmp 5) 0, g := none },
                                      { dst := some 29, op := Op.load 3 (Operand.tmp 28), g := none },
                                      { dst := some 30, op := Op.move (Operand.tmp 3), g := none },
                                      { dst := some 31, op := Op.binOp BinOp.neq 3 (Operand.tmp 29) (Operand.tmp 30) 3,
                                        g := none },
                                      { dst := some 32, op := Op.move (Operand.tmp 31), g := none },
                                      { dst := some 33, op := Op.fieldAddr 44 (Operand.tmp 5) 2, g := some (32, false) },
                                      { dst := some 34, op := Op.load 3 (Operand.tmp 33), g := some (32, false) },
                                      { dst := some 35,
                                        op :=
                                          Op.binOp BinOp.lss 3 (Operand.tmp 34)
                                            (Operand.const (Value.int IntKind.i64 0)) 3,
                                        g := some (32, false) },
                                      { dst := some 36,
                                        op := Op.pick (Operand.tmp 32) (Operand.const (Value.bool true)) (Operand.tmp 35),
                                        g := none },
                                      { dst := some 37, op := Op.move (Operand.tmp 36), g := none },
                                      { dst := some 38, op := Op.fieldAddr 44 (Operand.tmp 5) 2, g := some (37, false) },
                                      { dst := some 39, op := Op.load 3 (Operand.tmp 38), g := some (37, false) },
                                      { dst := some 40, op := Op.move (Operand.tmp 0), g := some (37, false) },
                                      { dst := some 41,
                                        op :=
                                          Op.call
                                            { callee := Callee.builtin Builtin.len,
                                              args := #[Operand.tmp 40], argTypes := #[24] },
                                        g := some (37, false) },
                                      { dst := some 42, op := Op.binOp BinOp.geq 3 (Operand.tmp 39) (Operand.tmp 41) 3,
                                        g := some (37, false) },
                                      { dst := some 43,
                                        op := Op.pick (Operand.tmp 37) (Operand.const (Value.bool true)) (Operand.tmp 42),
                                        g := none },
                                      { dst := some 44, op := Op.move (Operand.tmp 43), g := none },
                                      { dst := some 45, op := Op.fieldAddr 44 (Operand.tmp 5) 2, g := some (44, false) },
                                      { dst := some 46, op := Op.load 3 (Operand.tmp 45), g := some (44, false) },
                                      { dst := some 47, op := Op.move (Operand.tmp 3), g := some (44, false) },
                                      { dst := some 48, op := Op.binOp BinOp.eql 3 (Operand.tmp 46) (Operand.tmp 47) 3,
                                        g := some (44, false) },
                                      { dst := some 49,
                                        op := Op.pick (Operand.tmp 44) (Operand.const (Value.bool true)) (Operand.tmp 48),
                                        g := none }]
                                    { lo := 28, hi := 48, xs := [] } [])
                                  (AC.cond (Operand.tmp 49)
                                    (AC.seq
                                      (AC.reg
                                        [{ dst := some 2, op := Op.assign (Operand.const (Value.bool false)), g := none }]
                                        { lo := 1, hi := 0, xs := [] } [])
                                      AC.ret)
                                    AC.skip))))
                            (AC.reg
                              [{ dst := some 19, op := Op.move (Operand.tmp 4), g := none },
                                { dst := some 20,
                                  op :=
                                    Op.binOp BinOp.add 3 (Operand.tmp 19)
                                      (Operand.const (Value.int IntKind.i64 1)) 3,
                                  g := none },
                                { dst := some 4, op := Op.assign (Operand.tmp 20), g := none }]
                              { lo := 19, hi := 20, xs := [] } [])))))))
                (AC.reg
                  [{ dst := some 10, op := Op.move (Operand.tmp 3), g := none },
                    { dst := some 11,
                      op := Op.binOp BinOp.add 3 (Operand.tmp 10) (Operand.const (Value.int IntKind.i64 1)) 3,
                      g := none },
                    { dst := some 3, op := Op.assign (Operand.tmp 11), g := none }]
                  { lo := 10, hi := 11, xs := [] } []))))))
      (AC.seq
        (AC.reg
          [{ dst := some 50, op := Op.move (Operand.tmp 0), g := none },
            { dst := some 51,
              op :=
                Op.call
                  { callee := Callee.builtin Builtin.len, args := #[Operand.tmp 50],
                    argTypes := #[24] },
              g := none },
            { dst := some 52,
              op := Op.binOp BinOp.leq 3 (Operand.tmp 51) (Operand.const (Value.int IntKind.i64 6)) 3,
              g := none },
            { dst := some 2, op := Op.assign (Operand.tmp 52), g := none }]
          { lo := 50, hi := 52, xs := [] } [])
        AC.ret))

theorem e37 : slim (Try.f37.body.getD .skip) = c37 := by kernel_rfl
theorem b37 : Try.f37.body = some (Try.f37.body.getD .skip) := by kernel_rfl
theorem d37 : textOk Try.prog 53 (Try.f37.body.getD .skip) = true := by kernel_rfl
theorem r37 : Try.f37.results.toList = [ResultVar.tmp 2] := by kernel_rfl
theorem n37 : Try.f37.name ≠ "runtime.NumGoroutine" := by decide

def c38 : AC :=
  AC.seq
    (AC.reg [{ dst := some 6, op := Op.assign (Operand.const (Value.slice none 0 0)), g := none }]
      { lo := 1, hi := 0, xs := [] } [])
    (AC.seq
      (AC.reg [{ dst := some 7, op := Op.assign (Operand.const (Value.slice none 0 0)), g := none }]
        { lo := 1, hi := 0, xs := [] } [])
      (AC.seq
        (AC.seq
          (AC.reg
            [{ dst := some 10, op := Op.move (Operand.tmp 0), g := none },
              { dst := some 11,
                op :=
                  Op.call
                    { callee := Callee.builtin Builtin.len, args := #[Operand.tmp 10],
                      argTypes := #[29] },
                g := none },
              { dst := some 12, op := Op.move (Operand.const (Value.int IntKind.i64 0)), g := none }]
            { lo := 1, hi := 0, xs := [] } [])
          (AC.block 0
            (AC.loop
              (AC.seq
                (AC.reg [{ dst := some 13, op := Op.binOp BinOp.lss 3 (Operand.tmp 12) (Operand.tmp 11) 3, g := none }]
                  { lo := 1, hi := 0, xs := [] } [])
                (AC.seq (AC.cond (Operand.tmp 13) AC.skip (AC.exit 0))
                  (AC.seq
                    (AC.block 1
                      (AC.seq
                        (AC.reg
                          [{ dst := some 14, op := Op.indexAddr 29 (Operand.tmp 10) (Operand.tmp 12), g := none },
                            { dst := some 15, op := Op.load 44 (Operand.tmp 14), g := none },
                            { dst := some 9, op := Op.alloc 44, g := none },
                            { dst := none, op := Op.store 44 (Operand.tmp 9) (Operand.tmp 15), g := none }]
                          { lo := 14, hi := 15, xs := [] } [])
                        (AC.seq
                          (AC.reg
                            [{ dst := some 16, op := Op.fieldAddr 44 (Operand.tmp 9) 1, g := none },
                              { dst := some 17, op := Op.load 4 (Operand.tmp 16), g := none },
                              { dst := some 18, op := Op.move (Operand.tmp 1), g := none },
                              { dst := some 19, op := Op.binOp BinOp.eql 4 (Operand.tmp 17) (Operand.tmp 18) 4,
                                g := none },
                              { dst := some 20, op := Op.move (Operand.tmp 19), g := none },
                              { dst := some 21, op := Op.fieldAddr 44 (Operand.tmp 9) 2, g := some (20, true) },
                              { dst := some 22, op := Op.load 3 (Operand.tmp 21), g := some (20, true) },
                              { dst := some 23, op := Op.move (Operand.tmp 2), g := some (20, true) },
                              { dst := some 24, op := Op.binOp BinOp.eql 3 (Operand.tmp 22) (Operand.tmp 23) 3,
                                g := some (20, true) },
                              { dst := some 25,
                                op := Op.pick (Operand.tmp 20) (Operand.tmp 24) (Operand.const (Value.bool false)),
                                g := none }]
                            { lo := 16, hi := 24, xs := [] } [])
                          (AC.cond (Operand.tmp 25)
                            (AC.reg
                              [{ dst := some 26, op := Op.move (Operand.tmp 7), g := none },
                                { dst := some 27, op := Op.fieldAddr 44 (Operand.tmp 9) 3, g := none },
                                { dst := some 28, op := Op.load 3 (Operand.tmp 27), g := none },
                                { dst := some 29, op := Op.buildSlice 51 1 #[(0, Operand.tmp 28)],
                                  g := none },
                                { dst := some 30,
                                  op :=
                                    Op.call
                                      { callee := Callee.builtin Builtin.append,
                                        args := #[Operand.tmp 26, Operand.tmp 29],
                                        argTypes := #[51, 51] },
                                  g := none },
                                { dst := some 7, op := Op.assign (Operand.tmp 30), g := none }]
                              { lo := 26, hi := 30, xs := [] } [])
                            AC.skip))))
                    (AC.reg
                      [{ dst := some 31,
                          op :=
                            Op.binOp BinOp.add 3 (Operand.tmp 12) (Operand.const (Value.int IntKind.i64 1)) 3,
                          g := none },
                        { dst := some 12, op := Op.move (Operand.tmp 31), g := none }]
                      { lo := 31, hi := 31, xs := [] } [])))))))
        (AC.seq
          (AC.reg
            [{ dst := some 32, op := Op.move (Operand.tmp 7), g := none },
              { dst := some 6, op := Op.assign (Operand.tmp 32), g := none }]
            { lo := 32, hi := 32, xs := [] } [])
          AC.ret)))

theorem e38 : slim (Try.f38.body.getD .skip) = c38 := by kernel_rfl
theorem b38 : Try.f38.body = some (Try.f38.body.getD .skip) := by kernel_rfl
theorem d38 : textOk Try.prog 33 (Try.f38.body.getD .skip) = true := by kernel_rfl
theorem r38 : Try.f38.results.toList = [ResultVar.tmp 6] := by kernel_rfl
theorem n38 : Try.f38.name ≠ "runtime.NumGoroutine" := by decide

def c39 : AC :=
  AC.seq
    (AC.reg [{ dst := some 4, op := Op.assign (Operand.const (Value.int IntKind.i64 0)), g := none }]
      { lo := 1, hi := 0, xs := [] } [])
    (AC.seq
      (AC.reg
        [{ dst := some 7, op := Op.move (Operand.tmp 0), g := none },
          { dst := some 8,
            op :=
              Op.call
                { callee := Callee.value (Operand.func 43), args := #[Operand.tmp 7],
                  argTypes := #[3] },
            g := none },
          { dst := some 5, op := Op.assign (Operand.tmp 8), g := none }]
        { lo := 7, hi := 8, xs := [] } [])
      (AC.seq
        (AC.reg
          [{ dst := some 9, op := Op.move (Operand.tmp 1), g := none },
            { dst := some 10,
              op :=
                Op.call
                  { callee := Callee.value (Operand.func 43), args := #[Operand.tmp 9],
                    argTypes := #[3] },
              g := none },
            { dst := some 6, op := Op.assign (Operand.tmp 10), g := none }]
          { lo := 9, hi := 10, xs := [] } [])
        (AC.seq
          (AC.seq
            (AC.reg [{ dst := some 11, op := Op.move (Operand.tmp 5), g := none }] { lo := 1, hi := 0, xs := [] } [])
            (AC.cond (Operand.tmp 11)
              (AC.seq
                (AC.seq
                  (AC.reg [{ dst := some 12, op := Op.move (Operand.tmp 6), g := none }] { lo := 1, hi := 0, xs := [] }
                    [])
                  (AC.cond (Operand.tmp 12)
                    (AC.seq
                      (AC.reg
                        [{ dst := some 4, op := Op.assign (Operand.const (Value.int IntKind.i64 0)),
                            g := none }]
                        { lo := 1, hi := 0, xs := [] } [])
                      AC.ret)
                    AC.skip))
                (AC.seq
                  (AC.reg
                    [{ dst := some 4, op := Op.assign (Operand.const (Value.int IntKind.i64 (-1))),
                        g := none }]
                    { lo := 1, hi := 0, xs := [] } [])
                  AC.ret))
              AC.skip))
          (AC.seq
            (AC.seq
              (AC.reg [{ dst := some 13, op := Op.move (Operand.tmp 6), g := none }] { lo := 1, hi := 0, xs := [] } [])
              (AC.cond (Operand.tmp 13)
                (AC.seq
                  (AC.reg
                    [{ dst := some 4, op := Op.assign (Operand.const (Value.int IntKind.i64 1)), g := none }]
                    { lo := 1, hi := 0, xs := [] } [])
                  AC.ret)
                AC.skip))
            (AC.seq
              (AC.seq
                (AC.reg
                  [{ dst := some 14, op := Op.move (Operand.tmp 0), g := none },
                    { dst := some 15, op := Op.move (Operand.tmp 1), g := none },
                    { dst := some 16, op := Op.binOp BinOp.lss 3 (Operand.tmp 14) (Operand.tmp 15) 3, g := none }]
                  { lo := 14, hi := 15, xs := [] } [])
                (AC.cond (Operand.tmp 16)
                  (AC.seq
                    (AC.reg
                      [{ dst := some 4, op := Op.assign (Operand.const (Value.int IntKind.i64 (-1))),
                          g := none }]
                      { lo := 1, hi := 0, xs := [] } [])
                    AC.ret)
                  AC.skip))
              (AC.seq
                (AC.seq
                  (AC.reg
                    [{ dst := some 17, op := Op.move (Operand.tmp 0), g := none },
                      { dst := some 18, op := Op.move (Operand.tmp 1), g := none },
                      { dst := some 19, op := Op.binOp BinOp.gtr 3 (Operand.tmp 17) (Operand.tmp 18) 3, g := none }]
                    { lo := 17, hi := 18, xs := [] } [])
                  (AC.cond (Operand.tmp 19)
                    (AC.seq
                      (AC.reg
                        [{ dst := some 4, op := Op.assign (Operand.const (Value.int IntKind.i64 1)),
                            g := none }]
                        { lo := 1, hi := 0, xs := [] } [])
                      AC.ret)
                    AC.skip))
                (AC.seq
                  (AC.reg
                    [{ dst := some 4, op := Op.assign (Operand.const (Value.int IntKind.i64 0)), g := none }]
                    { lo := 1, hi := 0, xs := [] } [])
                  AC.ret)))))))

theorem e39 : slim (Try.f39.body.getD .skip) = c39 := by kernel_rfl
theorem b39 : Try.f39.body = some (Try.f39.body.getD .skip) := by kernel_rfl
theorem d39 : textOk Try.prog 20 (Try.f39.body.getD .skip) = true := by kernel_rfl
theorem r39 : Try.f39.results.toList = [ResultVar.tmp 4] := by kernel_rfl
theorem n39 : Try.f39.name ≠ "runtime.NumGoroutine" := by decide

def c40 : AC :=
  AC.seq
    (AC.reg [{ dst := some 4, op := Op.assign (Operand.const (Value.bool false)), g := none }]
      { lo := 1, hi := 0, xs := [] } [])
    (AC.seq
      (AC.seq
        (AC.reg
          [{ dst := some 6, op := Op.move (Operand.tmp 0), g := none },
            { dst := some 7,
              op :=
                Op.call
                  { callee := Callee.builtin Builtin.len, args := #[Operand.tmp 6],
                    argTypes := #[51] },
              g := none },
            { dst := some 8, op := Op.move (Operand.tmp 1), g := none },
            { dst := some 9,
              op :=
                Op.call
                  { callee := Callee.builtin Builtin.len, args := #[Operand.tmp 8],
                    argTypes := #[51] },
              g := none },
            { dst := some 10, op := Op.binOp BinOp.neq 3 (Operand.tmp 7) (Operand.tmp 9) 3, g := none }]
          { lo := 6, hi := 9, xs := [] } [])
        (AC.cond (Operand.tmp 10)
          (AC.seq
            (AC.reg [{ dst := some 4, op := Op.assign (Operand.const (Value.bool false)), g := none }]
              { lo := 1, hi := 0, xs := [] } [])
            AC.ret)
          AC.skip))
      (AC.seq
        (AC.seq
          (AC.reg
            [{ dst := some 11, op := Op.move (Operand.tmp 0), g := none },
              { dst := some 12,
                op :=
                  Op.call
                    { callee := Callee.builtin Builtin.len, args := #[Operand.tmp 11],
                      argTypes := #[51] },
                g := none },
              { dst := some 13, op := Op.move (Operand.const (Value.int IntKind.i64 0)), g := none }]
            { lo := 11, hi := 11, xs := [] } [])
          (AC.block 0
            (AC.loop
              (AC.seq
                (AC.reg [{ dst := some 14, op := Op.binOp BinOp.lss 3 (Operand.tmp 13) (Operand.tmp 12) 3, g := none }]
                  { lo := 1, hi := 0, xs := [] } [])
                (AC.seq (AC.cond (Operand.tmp 14) AC.skip (AC.exit 0))
                  (AC.seq
                    (AC.block 1
                      (AC.seq
                        (AC.reg
                          [{ dst := some 15, op := Op.move (Operand.tmp 13), g := none },
                            { dst := some 5, op := Op.assign (Operand.tmp 15), g := none }]
                          { lo := 15, hi := 15, xs := [] } [])
                        (AC.seq
                          (AC.drw
                            [{ o := { dst := some 16, op := Op.move (Operand.tmp 0), g := none }, kn := [] },
                              { o := { dst := some 17, op := Op.move (Operand.tmp 5), g := none }, kn := [] },
                              {
                                o :=
                                  { dst := some 18, op := Op.indexAddr 51 (Operand.tmp 16) (Operand.tmp 17), g := none },
                                kn := [16, 17] },
                              { o := { dst := some 19, op := Op.load 3 (Operand.tmp 18), g := none },
                                kn := [18, 16, 17] },
                              { o := { dst := some 20, op := Op.move (Operand.tmp 1), g := none }, kn := [] },
                              { o := { dst := some 21, op := Op.move (Operand.tmp 5), g := none }, kn := [] },
                              {
                                o :=
                                  { dst := some 22, op := Op.indexAddr 51 (Operand.tmp 20) (Operand.tmp 21), g := none },
                                kn := [20, 21] },
                              { o := { dst := some 23, op := Op.load 3 (Operand.tmp 22), g := none },
                                kn := [22, 20, 21] },
                              {
                                o :=
                                  { dst := some 24, op := Op.binOp BinOp.neq 3 (Operand.tmp 19) (Operand.tmp 23) 3,
                                    g := none },
                                kn := [19, 18, 16, 17, 23, 22, 20, 21] }]
                            [] { lo := 16, hi := 24, xs := [] } { lo := 16, hi := 23, xs := [] } [])
                          (AC.cond (Operand.tmp 24)
                            (AC.seq
                              (AC.reg [{ dst := some 4, op := Op.assign (Operand.const (Value.bool false)), g := none }]
                                { lo := 1, hi := 0, xs := [] } [])
                              AC.ret)
                            AC.skip))))
                    (AC.reg
                      [{ dst := some 25,
                          op :=
                            Op.binOp BinOp.add 3 (Operand.tmp 13) (Operand.const (Value.int IntKind.i64 1)) 3,
                          g := none },
                        { dst := some 13, op := Op.move (Operand.tmp 25), g := none }]
                      { lo := 25, hi := 25, xs := [] } [])))))))
        (AC.seq
          (AC.reg [{ dst := some 4, op := Op.assign (Operand.const (Value.bool true)), g := none }]
            { lo := 1, hi := 0, xs := [] } [])
          AC.ret)))

theorem e40 : slim (Try.f40.body.getD .skip) = c40 := by kernel_rfl
theorem b40 : Try.f40.body = some (Try.f40.body.getD .skip) := by kernel_rfl
theorem d40 : textOk Try.prog 26 (Try.f40.body.getD .skip) = true := by kernel_rfl
theorem r40 : Try.f40.results.toList = [ResultVar.tmp 4] := by kernel_rfl
theorem n40 : Try.f40.name ≠ "runtime.NumGoroutine" := by decide

def c41 : AC :=
  AC.seq
    (AC.reg [{ dst := some 6, op := Op.assign (Operand.const (Value.slice none 0 0)), g := none }]
      { lo := 1, hi := 0, xs := [] } [])
    (AC.seq
      (AC.reg [{ dst := some 7, op := Op.assign (Operand.const (Value.slice none 0 0)), g := none }]
        { lo := 1, hi := 0, xs := [] } [])
      (AC.seq
        (AC.seq
          (AC.reg [{ dst := some 8, op := Op.assign (Operand.const (Value.int IntKind.i64 0)), g := none }]
            { lo := 1, hi := 0, xs := [] } [])
          (AC.block 0
            (AC.loop
              (AC.seq
                (AC.seq
                  (AC.reg
                    [{ dst := some 9, op := Op.move (Operand.tmp 8), g := none },
                      { dst := some 10, op := Op.move (Operand.tmp 0), g := none },
                      { dst := some 11,
                        op :=
                          Op.call
                            { callee := Callee.builtin Builtin.len, args := #[Operand.tmp 10],
                              argTypes := #[29] },
                        g := none },
                      { dst := some 12, op := Op.binOp BinOp.lss 3 (Operand.tmp 9) (Operand.tmp 11) 3, g := none }]
                    { lo := 9, hi := 11, xs := [] } [])
                  (AC.cond (Operand.tmp 12) AC.skip (AC.exit 0)))
                (AC.seq
                  (AC.block 1
                    (AC.seq
                      (AC.reg
                        [{ dst := some 15, op := Op.move (Operand.tmp 0), g := none },
                          { dst := some 16, op := Op.move (Operand.tmp 8), g := none },
                          { dst := some 17, op := Op.indexAddr 29 (Operand.tmp 15) (Operand.tmp 16), g := none },
                          { dst := some 18, op := Op.fieldAddr 44 (Operand.tmp 17) 1, g := none },
                          { dst := some 19, op := Op.load 4 (Operand.tmp 18), g := none },
                          { dst := some 20, op := Op.move (Operand.tmp 1), g := none },
                          { dst := some 21, op := Op.binOp BinOp.eql 4 (Operand.tmp 19) (Operand.tmp 20) 4, g := none },
                          { dst := some 22, op := Op.move (Operand.tmp 21), g := none },
                          { dst := some 23, op := Op.move (Operand.tmp 0), g := some (22, true) },
                          { dst := some 24, op := Op.move (Operand.tmp 8), g := some (22, true) },
                          { dst := some 25, op := Op.indexAddr 29 (Operand.tmp 23) (Operand.tmp 24),
                            g := some (22, true) },
                          { dst := some 26, op := Op.fieldAddr 44 (Operand.tmp 25) 2, g := some (22, true) },
                          { dst := some 27, op := Op.load 3 (Operand.tmp 26), g := some (22, true) },
                          { dst := some 28, op := Op.move (Operand.tmp 2), g := some (22, true) },
                          { dst := some 29, op := Op.binOp BinOp.eql 3 (Operand.tmp 27) (Operand.tmp 28) 3,
                            g := some (22, true) },
                          { dst := some 30,
                            op := Op.pick (Operand.tmp 22) (Operand.tmp 29) (Operand.const (Value.bool false)),
                            g := none }]
                        { lo := 15, hi := 29, xs := [] } [])
                      (AC.cond (Operand.tmp 30)
                        (AC.reg
                          [{ dst := some 31, op := Op.move (Operand.tmp 7), g := none },
                            { dst := some 32, op := Op.move (Operand.tmp 0), g := none },
                            { dst := some 33, op := Op.move (Operand.tmp 8), g := none },
                            { dst := some 34, op := Op.indexAddr 29 (Operand.tmp 32) (Operand.tmp 33), g := none },
                            { dst := some 35, op := Op.fieldAddr 44 (Operand.tmp 34) 3, g := none },
                            { dst := some 36, op := Op.load 3 (Operand.tmp 35), g := none },
                            { dst := some 37, op := Op.buildSlice 51 1 #[(0, Operand.tmp 36)], g := none },
                            { dst := some 38,
                              op :=
                                Op.call
                                  { callee := Callee.builtin Builtin.append,
                                    args := #[Operand.tmp 31, Operand.tmp 37],
                                    argTypes := #[51, 51] },
                              g := none },
                            { dst := some 7, op := Op.assign (Operand.tmp 38), g := none }]
                          { lo := 31, hi := 38, xs := [] } [])
                        AC.skip)))
                  (AC.reg
                    [{ dst := some 13, op := Op.move (Operand.tmp 8), g := none },
                      { dst := some 14,
                        op :=
                          Op.binOp BinOp.add 3 (Operand.tmp 13) (Operand.const (Value.int IntKind.i64 1)) 3,
                        g := none },
                      { dst := some 8, op := Op.assign (Operand.tmp 14), g := none }]
                    { lo := 13, hi := 14, xs := [] } []))))))
        (AC.seq
          (AC.reg
            [{ dst := some 39, op := Op.move (Operand.tmp 7), g := none },
              { dst := some 6, op := Op.assign (Operand.tmp 39), g := none }]
            { lo := 39, hi := 39, xs := [] } [])
          AC.ret)))

theorem e41 : slim (Try.f41.body.getD .skip) = c41 := by kernel_rfl
theorem b41 : Try.f41.body = some (Try.f41.body.getD .skip) := by kernel_rfl
theorem d41 : textOk Try.prog 40 (Try.f41.body.getD .skip) = true := by kernel_rfl
theorem r41 : Try.f41.results.toList = [ResultVar.tmp 6] := by kernel_rfl
theorem n41 : Try.f41.name ≠ "runtime.NumGoroutine" := by decide

def c42 : AC :=
  AC.seq
    (AC.reg [{ dst := some 4, op := Op.assign (Operand.const (Value.int IntKind.i64 0)), g := none }]
      { lo := 1, hi := 0, xs := [] } [])
    (AC.seq
      (AC.seq
        (AC.reg
          [{ dst := some 9, op := Op.move (Operand.tmp 0), g := none },
            { dst := some 10,
              op :=
                Op.call
                  { callee := Callee.builtin Builtin.len, args := #[Operand.tmp 9],
                    argTypes := #[51] },
              g := none },
            { dst := some 11, op := Op.move (Operand.const (Value.int IntKind.i64 0)), g := none }]
          { lo := 1, hi := 0, xs := [] } [])
        (AC.block 0
          (AC.loop
            (AC.seq
              (AC.reg [{ dst := some 12, op := Op.binOp BinOp.lss 3 (Operand.tmp 11) (Operand.tmp 10) 3, g := none }]
                { lo := 1, hi := 0, xs := [] } [])
              (AC.seq (AC.cond (Operand.tmp 12) AC.skip (AC.exit 0))
                (AC.seq
                  (AC.block 1
                    (AC.seq
                      (AC.reg
                        [{ dst := some 13, op := Op.move (Operand.tmp 11), g := none },
                          { dst := some 14, op := Op.indexAddr 51 (Operand.tmp 9) (Operand.tmp 11), g := none },
                          { dst := some 15, op := Op.load 3 (Operand.tmp 14), g := none },
                          { dst := some 5, op := Op.assign (Operand.tmp 13), g := none },
                          { dst := some 6, op := Op.assign (Operand.tmp 15), g := none }]
                        { lo := 13, hi := 15, xs := [] } [])
                      (AC.seq
                        (AC.seq
                          (AC.reg
                            [{ dst := some 16, op := Op.move (Operand.tmp 5), g := none },
                              { dst := some 17, op := Op.move (Operand.tmp 1), g := none },
                              { dst := some 18,
                                op :=
                                  Op.call
                                    { callee := Callee.builtin Builtin.len, args := #[Operand.tmp 17],
                                      argTypes := #[51] },
                                g := none },
                              { dst := some 19, op := Op.binOp BinOp.geq 3 (Operand.tmp 16) (Operand.tmp 18) 3,
                                g := none }]
                            { lo := 16, hi := 18, xs := [] } [])
                          (AC.cond (Operand.tmp 19)
                            (AC.seq
                              (AC.reg
                                [{ dst := some 4, op := Op.assign (Operand.const (Value.int IntKind.i64 1)),
                                    g := none }]
                                { lo := 1, hi := 0, xs := [] } [])
                              AC.ret)
                            AC.skip))
                        (AC.seq
                          (AC.reg
                            [{ dst := some 20, op := Op.move (Operand.tmp 1), g := none },
                              { dst := some 21, op := Op.move (Operand.tmp 5), g := none },
                              { dst := some 22, op := Op.indexAddr 51 (Operand.tmp 20) (Operand.tmp 21), g := none },
                              { dst := some 23, op := Op.load 3 (Operand.tmp 22), g := none },
                              { dst := some 7, op := Op.assign (Operand.tmp 23), g := none }]
                            { lo := 20, hi := 23, xs := [] } [])
                          (AC.seq
                            (AC.reg
                              [{ dst := some 24, op := Op.move (Operand.tmp 6), g := none },
                                { dst := some 25, op := Op.move (Operand.tmp 7), g := none },
                                { dst := some 26,
                                  op :=
                                    Op.call
                                      { callee := Callee.value (Operand.func 39),
                                        args := #[Operand.tmp 24, Operand.tmp 25],
                                        argTypes := #[3, 3] },
                                  g := none },
                                { dst := some 8, op := Op.assign (Operand.tmp 26), g := none }]
                              { lo := 24, hi := 26, xs := [] } [])
                            (AC.seq
                              (AC.reg
                                [{ dst := some 27, op := Op.move (Operand.tmp 8), g := none },
                                  { dst := some 28,
                                    op :=
                                      Op.binOp BinOp.neq 3 (Operand.tmp 27)
                                        (Operand.const (Value.int IntKind.i64 0)) 3,
                                    g := none }]
                                { lo := 27, hi := 27, xs := [] } [])
                              (AC.cond (Operand.tmp 28)
                                (AC.seq
                                  (AC.reg
                                    [{ dst := some 29, op := Op.move (Operand.tmp 8), g := none },
                                      { dst := some 4, op := Op.assign (Operand.tmp 29), g := none }]
                                    { lo := 29, hi := 29, xs := [] } [])
                                  AC.ret)
                                AC.skip)))))))
                  (AC.reg
                    [{ dst := some 30,
                        op :=
                          Op.binOp BinOp.add 3 (Operand.tmp 11) (Operand.const (Value.int IntKind.i64 1)) 3,
                        g := none },
                      { dst := some 11, op := Op.move (Operand.tmp 30), g := none }]
                    { lo := 30, hi := 30, xs := [] } [])))))))
      (AC.seq
        (AC.seq
          (AC.reg
            [{ dst := some 31, op := Op.move (Operand.tmp 0), g := none },
              { dst := some 32,
                op :=
                  Op.call
                    { callee := Callee.builtin Builtin.len, args := #[Operand.tmp 31],
                      argTypes := #[51] },
                g := none },
              { dst := some 33, op := Op.move (Operand.tmp 1), g := none },
              { dst := some 34,
                op :=
                  Op.call
                    { callee := Callee.builtin Builtin.len, args := #[Operand.tmp 33],
                      argTypes := #[51] },
                g := none },
              { dst := some 35, op := Op.binOp BinOp.lss 3 (Operand.tmp 32) (Operand.tmp 34) 3, g := none }]
            { lo := 31, hi := 34, xs := [] } [])
          (AC.cond (Operand.tmp 35)
            (AC.seq
              (AC.reg
                [{ dst := some 4, op := Op.assign (Operand.const (Value.int IntKind.i64 (-1))), g := none }]
                { lo := 1, hi := 0, xs := [] } [])
              AC.ret)
            AC.skip))
        (AC.seq
          (AC.reg [{ dst := some 4, op := Op.assign (Operand.const (Value.int IntKind.i64 0)), g := none }]
            { lo := 1, hi := 0, xs := [] } [])
          AC.ret)))

theorem e42 : slim (Try.f42.body.getD .skip) = c42 := by kernel_rfl
theorem b42 : Try.f42.body = some (Try.f42.body.getD .skip) := by kernel_rfl
theorem d42 : textOk Try.prog 36 (Try.f42.body.getD .skip) = true := by kernel_rfl
theorem r42 : Try.f42.results.toList = [ResultVar.tmp 4] := by kernel_rfl
theorem n42 : Try.f42.name ≠ "runtime.NumGoroutine" := by decide

def c43 : AC :=
  AC.seq
    (AC.reg [{ dst := some 2, op := Op.assign (Operand.const (Value.bool false)), g := none }]
      { lo := 1, hi := 0, xs := [] } [])
    (AC.seq
      (AC.reg
        [{ dst := some 3, op := Op.move (Operand.tmp 0), g := none },
          { dst := some 4, op := Op.move (Operand.tmp 0), g := none },
          { dst := some 5, op := Op.binOp BinOp.neq 3 (Operand.tmp 3) (Operand.tmp 4) 3, g := none },
          { dst := some 2, op := Op.assign (Operand.tmp 5), g := none }]
        { lo := 3, hi := 5, xs := [] } [])
      AC.ret)

theorem e43 : slim (Try.f43.body.getD .skip) = c43 := by kernel_rfl
theorem b43 : Try.f43.body = some (Try.f43.body.getD .skip) := by kernel_rfl
theorem d43 : textOk Try.prog 6 (Try.f43.body.getD .skip) = true := by kernel_rfl
theorem r43 : Try.f43.results.toList = [ResultVar.tmp 2] := by kernel_rfl
theorem n43 : Try.f43.name ≠ "runtime.NumGoroutine" := by decide
end Go.Av
