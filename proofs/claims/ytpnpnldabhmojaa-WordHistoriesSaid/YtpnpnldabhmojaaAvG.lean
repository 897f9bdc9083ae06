/- Operations that only read, all together. -/
import Derived.Test.YtpnpnldabhmojaaAvF
set_option linter.unusedVariables false
set_option linter.unusedSimpArgs false
namespace Go.Av
open Go Go.RowKit

def aun (op : UnOp) (x : AV) : Option (Prop × AV) :=
  match op, x with
  | .not, .sv (.one (.bool b)) => some (True, .sv (.one (.bool (!b))))
  | .neg, .sv (.one (.int k n)) => some (True, .sv (.one (.int k (k.wrap (0 - n)))))
  | _, _ => none

def aconv (P : Program) (dst : TypeId) (x : AV) : Option (Prop × AV) :=
  match intT P dst, x with
  | some k, .sv (.one (.int _ n)) => some (True, .sv (.one (.int k (k.wrap n))))
  | _, _ => none

def aextract (env : Env) (x : Operand) (i : Nat) : Option (Prop × AV) :=
  match x with
  | .tmp t => match env.get t with
    | .tup l => match l[i]? with
      | some (.one d) => if d.flat then some (True, .sv (.one d)) else none
      | some (.ag m) => if m.all DV.flat then some (True, .sv (.ag m)) else none
      | none => none
    | _ => none
  | _ => none

/-- A Bool that is known under a condition. -/
def AV.boolG : AV → Option (Bool × Bool)
  | .sv (.one (.bool b)) => some (true, b)
  | .gd c (.sv (.one (.bool b))) => some (c, b)
  | .undef => some (false, false)
  | _ => none

/-- An operand as its slot is known, guards and all. -/
def rawOpd (env : Env) : Operand → AV
  | .tmp t => env.get t
  | .const v => constAV v
  | _ => .no

def apick (c x y : AV) : Option (Prop × AV) :=
  match c, x.boolG, y.boolG with
  | .sv (.one (.bool b)), some (gx, u), some (gy, v) => some ((b = true → gx = true) ∧ (b = false → gy = true), .sv (.one (.bool (bif b then u else v))))
  | _, _, _ => none

def strT (P : Program) (t : TypeId) : Bool :=
  match P.underlying t with
  | some .string => true
  | _ => false

def alen (P : Program) (t : TypeId) (env : Env) (x : AV) : Option (Prop × AV) :=
  match elT P t with
  | some _ => match sliceOf env x with
    | some els => some (True, .sv (.one (.int .i64 els.length)))
    | none => none
  | none => if strT P t then match x with
    | .sv (.one (.str s)) => some (True, .sv (.one (.int .i64 s.size)))
    | _ => none
    else none

def isTup (env : Env) : Operand → Bool
  | .tmp t => match env.get t with
    | .tup _ => true
    | _ => false
  | _ => false

def apure (P : Program) (env : Env) (o : Op) : Option (Prop × AV) :=
  match o with
  | .move x => if isTup env x then none else some (True, opd env x)
  | .assign (.const v) => some (True, constAV v)
  | .assign (.tmp t) => match env.get t with
    | .sv (.one d) => if d.flat then some (True, .sv (.one d)) else none
    | .sv (.ag l) => if l.all DV.flat then some (True, .sv (.ag l)) else none
    | .tup _ => none
    | .sub _ _ _ _ => none
    | a => some (True, a)
  | .pick c x y => apick (opd env c) (rawOpd env x) (rawOpd env y)
  | .load t x => aload P env t x
  | .fieldAddr t x f => afield P env t x f
  | .indexAddr t x i => aindex P env t x i
  | .binOp op t x y _ => abin P t op (opd env x) (opd env y)
  | .unOp op _ x => aun op (opd env x)
  | .convert s d x => if (P.underlying s).isSome then aconv P d (opd env x) else none
  | .extract x i => aextract env x i
  | .call c => match c.callee, c.args.toList, c.argTypes.toList with
    | .builtin .len, [x], [t] => alen P t env (opd env x)
    | _, _, _ => none
  | _ => none

section
variable {P : Program} {N B : Nat} {w0 : World} {S0 : Nat → Prop} {env : Env} {a : Act} {w : World} {rows : Nat → List Nat}

theorem Cz.int_inv {S : Nat → Prop} {v : Value} {k : IntKind} {n : Int} {r : List Nat} (h : Cz w S v (.int k n) r) : v = .int k n := by cases h; rfl
theorem Cz.bool_inv {S : Nat → Prop} {v : Value} {b : Bool} {r : List Nat} (h : Cz w S v (.bool b) r) : v = .bool b := by cases h; rfl
theorem Cz.str_inv {S : Nat → Prop} {v : Value} {b : ByteArray} {r : List Nat} (h : Cz w S v (.str b) r) : v = .string b := by cases h; rfl

theorem run_eql_bool {t : TypeId} (hu : P.underlying t = some .bool) (b c : Bool) : (binOp .eql t (.bool b) (.bool c)).run P w = .ok (.bool (b == c)) w := by
  show (do pure (Value.bool (← Op.equal t (.bool b) (.bool c))) : Sem Value).run P w = _
  have h : (Op.equal t (.bool b) (.bool c)).run P w = .ok (b == c) w := run_equalIn_bool' w 9999 t b c hu
  simp [h]

theorem run_neq_bool {t : TypeId} (hu : P.underlying t = some .bool) (b c : Bool) : (binOp .neq t (.bool b) (.bool c)).run P w = .ok (.bool (!(b == c))) w := by
  show (do pure (Value.bool (!(← Op.equal t (.bool b) (.bool c)))) : Sem Value).run P w = _
  have h : (Op.equal t (.bool b) (.bool c)).run P w = .ok (b == c) w := run_equalIn_bool' w 9999 t b c hu
  simp [h]

theorem CzL.rdA {S : Nat → Prop} {zs : Array Value} {l : List DV} {r : List Nat} (hz : CzL w S zs.toList l r) : RdA w S zs l := by
  intro i v hv
  have hlt : i < zs.size := (Array.getElem?_eq_some_iff.1 hv).1
  have hlen := hz.length
  have hd : l[i]? = some (l[i]'(by simp at hlen; omega)) := List.getElem?_eq_getElem _
  obtain ⟨v', r', h1, h2, _⟩ := hz.get hd
  have e : v' = v := by
    have h3 : zs.toList[i]? = some v := by simpa using hv
    rw [h1] at h3
    injection h3
  subst e
  exact ⟨_, _, hd, h2⟩

theorem abin_ok (h : SimR N B w0 S0 env a w rows) {o : Oper} {t ty : TypeId} {op : BinOp} {x y : Operand} (ho : o.op = .binOp op t x y ty) {ob : Prop} {av : AV} (he : abin P t op (opd env x) (opd env y) = some (ob, av)) (hob : ob) :
    ∃ v, Yields P o a w v ∧ AVR w (SS B S0 w rows) env (Act.f a) av v [] := by
  have hx := h.opd_ok x
  have hy := h.opd_ok y
  generalize opd env x = ax at *
  generalize opd env y = ay at *
  unfold abin at he
  split at he
  · rename_i k n k' m
    have ex := (CzS.one_inv hx).int_inv
    have ey := (CzS.one_inv hy).int_inv
    split at he
    · rename_i hk
      subst hk
      split at he <;> first
        | (cases he; done)
        | (simp only [Option.some.injEq, Prod.mk.injEq] at he
           obtain ⟨rfl, rfl⟩ := he
           refine ⟨_, fun w' _ => ?_, .one _ _ _ (.int _ _)⟩
           simp only [execOp, ho, ex, ey]
           first
             | (refine run_value ?_; simp [eqGuard_at_int, binOp, Op.intArith]; done)
             | (refine run_value ?_; simp [eqGuard_at_int, binOp, Op.intDiv, hob]; done))
        | (simp only [Option.some.injEq, Prod.mk.injEq] at he
           obtain ⟨rfl, rfl⟩ := he
           refine ⟨_, fun w' _ => ?_, .one _ _ _ (.bool _)⟩
           simp only [execOp, ho, ex, ey]
           refine run_value ?_
           simp [eqGuard_at_int, binOp, Op.intCmp])
    · cases he
  · rename_i b c
    have ex := (CzS.one_inv hx).bool_inv
    have ey := (CzS.one_inv hy).bool_inv
    split at he
    · rename_i hb
      have hu : P.underlying t = some .bool := by
        unfold boolT at hb
        split at hb
        · assumption
        · cases hb
      split at he <;> first
        | (cases he; done)
        | (simp only [Option.some.injEq, Prod.mk.injEq] at he
           obtain ⟨rfl, rfl⟩ := he
           refine ⟨_, fun w' _ => ?_, .one _ _ _ (.bool _)⟩
           simp only [execOp, ho, ex, ey]
           refine run_value ?_
           simp [eqGuard_at_bool, run_eql_bool hu, run_neq_bool hu])
    · cases he
  · rename_i b c
    have ex := (CzS.one_inv hx).str_inv
    have ey := (CzS.one_inv hy).str_inv
    split at he <;> first
      | (cases he; done)
      | (simp only [Option.some.injEq, Prod.mk.injEq] at he
         obtain ⟨rfl, rfl⟩ := he
         refine ⟨_, fun w' _ => ?_, .one _ _ _ (.bool _)⟩
         simp only [execOp, ho, ex, ey]
         refine run_value ?_
         simp [eqGuard_at_string, binOp, Op.stringOp, beq_toListBytes])
  · rename_i l m
    split at he
    · rename_i is n hc hk hs
      split at he
      · cases he
      · rename_i hg
        split at he
        · rename_i c hce
          generalize hvx : a.eval x = vx at *
          generalize hvy : a.eval y = vy at *
          generalize hr1 : ([] : List Nat) = r1 at hx
          generalize hr2 : ([] : List Nat) = r2 at hy
          cases hx with
          | ag xs l r1 hl =>
            cases hy with
            | ag ys m r2 hm =>
              subst hr1
              subst hr2
              have hlx := hl.length
              have hly := hm.length
              simp only [Array.length_toList] at hlx hly
              have hrun : (l.length = n ∧ m.length = n) → ∀ w', Below w.heap.size w w' → (Op.equalIn 10000 t (.agg xs) (.agg ys)).run P w' = .ok c w' := by
                intro hln w' hb
                have hkeep : ∀ b, SS B S0 w rows b → SS B S0 w rows b ∧ w'.heap[b]? = w.heap[b]? := fun b hs => ⟨hs, hb.block b (hs.lt h.old h.base)⟩
                have hl' := hl.keep hkeep (by simp)
                have hm' := hm.keep hkeep (by simp)
                exact (eq_run (S := SS B S0 w rows) 20 t is hc 10000 (by omega)).2.1 xs ys l m c n hk hs (by omega) (by omega) hl'.rdA hm'.rdA hce
              have hg' : P.eqGuardType P.depth t = false := by simpa using hg
              split at he <;> first
                | (cases he; done)
                | (simp only [Option.some.injEq, Prod.mk.injEq] at he
                   obtain ⟨rfl, rfl⟩ := he
                   refine ⟨_, fun w' hw' => ?_, .one _ _ _ (.bool _)⟩
                   simp only [execOp, ho, hvx, hvy]
                   refine run_value ?_
                   simp [run_eqGuard_agg, hg', run_eql_struct, run_neq_struct, hrun hob w' hw', Result.andThen])
        · cases he
    · cases he
  · cases he

theorem boolG_ok {S : Nat → Prop} {f : Nat → Value} {x : AV} {v : Value} {g b : Bool} {r : List Nat} (h : AVR w S env f x v r) (hx : x.boolG = some (g, b)) : g = true → v = .bool b := by
  unfold AV.boolG at hx
  split at hx
  · simp only [Option.some.injEq, Prod.mk.injEq] at hx
    obtain ⟨rfl, rfl⟩ := hx
    exact fun _ => (CzS.one_inv h).bool_inv
  · simp only [Option.some.injEq, Prod.mk.injEq] at hx
    obtain ⟨rfl, rfl⟩ := hx
    exact fun hg => (CzS.one_inv (h.2.1 hg)).bool_inv
  · simp only [Option.some.injEq, Prod.mk.injEq] at hx
    obtain ⟨rfl, rfl⟩ := hx
    exact fun hg => by cases hg
  · cases hx

theorem SimR.rawOpd_ok (h : SimR N B w0 S0 env a w rows) (x : Operand) : ∃ r, AVR w (SS B S0 w rows) env (Act.f a) (rawOpd env x) (a.eval x) r := by
  cases x with
  | tmp t => exact ⟨_, h.rel t⟩
  | const v => exact ⟨[], constAV_ok v⟩
  | _ => exact ⟨[], trivial⟩

theorem apure_ok (h : SimR N B w0 S0 env a w rows) {o : Oper} {ob : Prop} {av : AV} (he : apure P env o.op = some (ob, av)) (hob : ob) :
    ∃ v, Yields P o a w v ∧ AVR w (SS B S0 w rows) env (Act.f a) av v [] := by
  unfold apure at he
  split at he
  · rename_i x ho
    split at he
    · cases he
    · simp only [Option.some.injEq, Prod.mk.injEq] at he
      obtain ⟨rfl, rfl⟩ := he
      exact ⟨a.eval x, fun w' _ => by simp [execOp, ho], h.opd_ok x⟩
  · rename_i v ho
    simp only [Option.some.injEq, Prod.mk.injEq] at he
    obtain ⟨rfl, rfl⟩ := he
    exact ⟨v, fun w' _ => by simp [execOp, ho, Act.eval], constAV_ok v⟩
  · rename_i t ho
    have hr := h.rel t
    refine ⟨Act.f a t, fun w' _ => by simp [execOp, ho, Act.eval, Act.f], ?_⟩
    generalize Act.f a t = v at *
    generalize rows t = rs at *
    split at he
    · rename_i d hd
      rw [hd] at hr
      split at he
      · rename_i hfl
        simp only [Option.some.injEq, Prod.mk.injEq] at he
        obtain ⟨rfl, rfl⟩ := he
        have hr := CzS.one_inv hr
        rw [hr.flat_rows hfl] at hr
        exact .one _ _ _ hr
      · cases he
    · rename_i l hd
      rw [hd] at hr
      split at he
      · rename_i hfl
        simp only [Option.some.injEq, Prod.mk.injEq] at he
        obtain ⟨rfl, rfl⟩ := he
        cases hr with
        | ag vs l rs hl => rw [hl.flat_rows hfl] at hl; exact .ag vs l [] hl
      · cases he
    · cases he
    · cases he
    · rename_i h1 h2 h3 h4
      simp only [Option.some.injEq, Prod.mk.injEq] at he
      obtain ⟨rfl, rfl⟩ := he
      generalize env.get t = av at *
      cases av with
      | no => trivial
      | undef => exact ⟨hr.1, rfl⟩
      | sv x =>
        cases x with
        | one x => exact (h1 x rfl).elim
        | ag l => exact (h2 l rfl).elim
      | tup l => exact (h3 l rfl).elim
      | al s p => exact ⟨rfl, hr.2⟩
      | pt s p i j => exact ⟨rfl, hr.2⟩
      | sub s p lo hi => exact (h4 s p lo hi rfl).elim
      | bsl s p n => exact ⟨rfl, hr.2⟩
      | gd c a => exact ⟨rfl, hr.2⟩
  · rename_i c x y ho
    unfold apick at he
    split at he
    · rename_i b gx u gy v hc hx hy
      simp only [Option.some.injEq, Prod.mk.injEq] at he
      obtain ⟨rfl, rfl⟩ := he
      have hcv := h.opd_ok c
      rw [hc] at hcv
      have ec := (CzS.one_inv hcv).bool_inv
      obtain ⟨_, hrx⟩ := h.rawOpd_ok x
      obtain ⟨_, hry⟩ := h.rawOpd_ok y
      have ex := boolG_ok hrx hx
      have ey := boolG_ok hry hy
      refine ⟨.bool (bif b then u else v), fun w' _ => ?_, .one _ _ _ (.bool _)⟩
      cases b with
      | true => simp [execOp, ho, ec, asBool, ex (hob.1 rfl)]
      | false => simp [execOp, ho, ec, asBool, ey (hob.2 rfl)]
    · cases he
  · rename_i t x ho
    exact aload_ok h ho he hob
  · rename_i t x f ho
    exact afield_ok h ho he
  · rename_i t x i ho
    exact aindex_ok h ho he hob
  · rename_i op t x y ty ho
    exact abin_ok h ho he hob
  · rename_i op ty x ho
    have hx := h.opd_ok x
    unfold aun at he
    split at he
    · rename_i b hopd
      rw [hopd] at hx
      have ex := (CzS.one_inv hx).bool_inv
      simp only [Option.some.injEq, Prod.mk.injEq] at he
      obtain ⟨rfl, rfl⟩ := he
      refine ⟨_, fun w' _ => ?_, .one _ _ _ (.bool _)⟩
      simp [execOp, ho, ex, Op.unary]
    · rename_i k n hopd
      rw [hopd] at hx
      have ex := (CzS.one_inv hx).int_inv
      simp only [Option.some.injEq, Prod.mk.injEq] at he
      obtain ⟨rfl, rfl⟩ := he
      refine ⟨_, fun w' _ => ?_, .one _ _ _ (.int _ _)⟩
      simp [execOp, ho, ex, Op.unary, Op.intArith]
    · cases he
  · rename_i src d x ho
    have hx := h.opd_ok x
    split at he
    · rename_i hsrc
      unfold aconv at he
      split at he
      · rename_i k ik n hk hopd
        rw [hopd] at hx
        have ex := (CzS.one_inv hx).int_inv
        simp only [Option.some.injEq, Prod.mk.injEq] at he
        obtain ⟨rfl, rfl⟩ := he
        unfold intT at hk
        split at hk
        · rename_i k' hu
          injection hk with hk
          subst hk
          refine ⟨.int k' (k'.wrap n), fun w' _ => ?_, .one _ _ _ (.int _ _)⟩
          simp only [execOp, ho, ex]
          refine run_value ?_
          obtain ⟨ds, hs⟩ := Option.isSome_iff_exists.1 hsrc
          cases ds <;> simp [convert, run_underlying hs, run_underlying hu, Conv.intToInt]
        · cases hk
      · cases he
    · cases he
  · rename_i x i ho
    unfold aextract at he
    split at he
    · rename_i t
      have hr := h.rel t
      split at he
      · rename_i l hd
        rw [hd] at hr
        obtain ⟨vs, hv, hl⟩ := hr
        have key : ∀ (l : List SV) (us : List Value) (r : List Nat) (i : Nat) (x : SV), CzSL w (SS B S0 w rows) us l r → l[i]? = some x → ∃ u r', us[i]? = some u ∧ CzS w (SS B S0 w rows) u x r' := by
          intro l us r i x hl
          induction hl generalizing i with
          | nil => simp
          | cons v x r vs xs rs h1 _ ih =>
            intro hx
            cases i with
            | zero => simp at hx; subst hx; exact ⟨v, r, rfl, h1⟩
            | succ i => exact ih i (by simpa using hx)
        have hev : a.eval (.tmp t) = .tuple vs := hv
        have fin : ∀ x, l[i]? = some x → ∃ u r', Yields P o a w u ∧ CzS w (SS B S0 w rows) u x r' := by
          intro x hx
          obtain ⟨u, r', h1, h2⟩ := key l _ _ i x hl hx
          refine ⟨u, r', fun w' _ => ?_, h2⟩
          have h1' : vs[i]? = some u := by simpa using h1
          simp [execOp, ho, hev, Instr.extract, h1']
        split at he
        · rename_i d hx
          split at he
          · rename_i hfl
            simp only [Option.some.injEq, Prod.mk.injEq] at he
            obtain ⟨rfl, rfl⟩ := he
            obtain ⟨u, r', h1, h2⟩ := fin _ hx
            have h2 := CzS.one_inv h2
            rw [h2.flat_rows hfl] at h2
            exact ⟨u, h1, .one _ _ _ h2⟩
          · cases he
        · rename_i m hx
          split at he
          · rename_i hfl
            simp only [Option.some.injEq, Prod.mk.injEq] at he
            obtain ⟨rfl, rfl⟩ := he
            obtain ⟨u, r', h1, h2⟩ := fin _ hx
            cases h2 with
            | ag us m r' hm => rw [hm.flat_rows hfl] at hm; exact ⟨_, h1, .ag us m [] hm⟩
          · cases he
        · cases he
      · cases he
    · cases he
  · rename_i c ho
    split at he
    · rename_i x t hcal hargs htys
      have hx := h.opd_ok x
      have hargs' : c.args = #[x] := by rw [← Array.toArray_toList (xs := c.args), hargs]
      have htys' : c.argTypes = #[t] := by rw [← Array.toArray_toList (xs := c.argTypes), htys]
      unfold alen at he
      split at he
      · rename_i e helT
        unfold elT at helT
        split at helT
        · rename_i e' hu
          split at he
          · rename_i els hsl
            simp only [Option.some.injEq, Prod.mk.injEq] at he
            obtain ⟨rfl, rfl⟩ := he
            obtain ⟨A, cp, hv⟩ := h.slice_of hx hsl
            refine ⟨_, fun w' _ => ?_, .one _ _ _ (.int _ _)⟩
            simp [execOp, ho, resolve, hcal, hargs', htys', invoke, builtin, Builtin.len_, run_underlying hu, hv, goInt]
          · cases he
        · cases helT
      · split at he
        · rename_i hstr
          unfold strT at hstr
          split at hstr
          · rename_i hu
            split at he
            · rename_i s hopd
              simp only [Option.some.injEq, Prod.mk.injEq] at he
              obtain ⟨rfl, rfl⟩ := he
              rw [hopd] at hx
              have ex := (CzS.one_inv hx).str_inv
              refine ⟨_, fun w' _ => ?_, .one _ _ _ (.int _ _)⟩
              simp [execOp, ho, resolve, hcal, hargs', htys', invoke, builtin, Builtin.len_, run_underlying hu, ex, goInt]
            · cases he
          · cases hstr
        · cases he
    · cases he
  · cases he
end

end Go.Av
