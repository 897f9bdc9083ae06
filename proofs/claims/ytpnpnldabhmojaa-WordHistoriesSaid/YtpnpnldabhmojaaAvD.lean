/- Operations that only read: what they yield, computed on what is known of the slots; and that this is right. -/
import Derived.Test.YtpnpnldabhmojaaAvC
set_option linter.unusedVariables false
set_option linter.unusedSimpArgs false
namespace Go.Av
open Go Go.RowKit

def kindT (P : Program) (t : TypeId) : Option Bool :=
  match P.underlying t with
  | some (.struct _) => some true
  | some (.array _ _) => some true
  | some _ => some false
  | none => none
def sizeT (P : Program) (t : TypeId) : Option Nat := (P.info? t).map (·.size)
def bytesT (P : Program) (t : TypeId) : Option Nat := (P.info? t).map (·.bytes)
def elT (P : Program) (t : TypeId) : Option TypeId :=
  match P.underlying t with
  | some (.slice e) => some e
  | _ => none
def arrT (P : Program) (t : TypeId) : Option (Nat × TypeId) :=
  match P.underlying t with
  | some (.array n e) => some (n, e)
  | _ => none
def intT (P : Program) (t : TypeId) : Option IntKind :=
  match P.underlying t with
  | some (.int k) => some k
  | _ => none
def fldT (P : Program) (t : TypeId) (f : Nat) : Option (Nat × TypeId) :=
  match P.underlying t with
  | some (.struct fs) => (fs[f]?).map fun x => (x.offset, x.type)
  | _ => none

/-- Data of which nothing is owned. -/
def DV.flat : DV → Bool
  | .ow _ _ => false
  | .bx _ => false
  | _ => true

theorem Cz.flat_rows {w : World} {S : Nat → Prop} {v : Value} {x : DV} {r : List Nat} (h : Cz w S v x r) (hf : x.flat = true) : r = [] := by
  cases h <;> first | rfl | (simp [DV.flat] at hf)

theorem CzL.flat_rows {w : World} {S : Nat → Prop} {vs : List Value} {l : List DV} {r : List Nat} (h : CzL w S vs l r) (hf : l.all DV.flat = true) : r = [] := by
  induction l generalizing vs r with
  | nil => cases h; rfl
  | cons x l ih =>
    cases h with
    | cons v x r vs xs rs h hs =>
      simp only [List.all_cons, Bool.and_eq_true] at hf
      rw [h.flat_rows hf.1, ih hs hf.2]; rfl

def constAV : Value → AV
  | .int k n => .sv (.one (.int k n))
  | .bool b => .sv (.one (.bool b))
  | .string s => .sv (.one (.str s))
  | .slice none 0 0 => .sv (.one .nil)
  | .pointer none => .sv (.one (.raw (.pointer none)))
  | .nilIface => .sv (.one (.raw .nilIface))
  | .map none => .sv (.one (.raw (.map none)))
  | _ => .no

/-- What an operand is known as; a value that its slot owns goes by its name. -/
def AV.asOpd (t : Nat) : AV → AV
  | .sv (.one (.ow _ _)) => .al t []
  | .sv (.one (.bx _)) => .pt t [] 0 0
  | .sv (.ag l) => if l.all DV.flat then .sv (.ag l) else .no
  | .tup _ => .no
  | .gd true a => a
  | a => a

def opd (env : Env) : Operand → AV
  | .tmp t => (env.get t).asOpd t
  | .const v => constAV v
  | .func f => .sv (.one (.raw (.func (.func f) #[] #[])))
  | .global _ => .no

theorem constAV_ok {w : World} {S : Nat → Prop} {env : Env} {f : Nat → Value} (v : Value) : AVR w S env f (constAV v) v [] := by
  unfold constAV
  split <;> first
    | exact .one _ _ _ (.int _ _)
    | exact .one _ _ _ (.bool _)
    | exact .one _ _ _ (.str _)
    | exact .one _ _ _ .nil
    | exact .one _ _ _ (.raw _ rfl)
    | trivial

theorem add_zero (a : Addr) : a.add 0 = a := by simp [Addr.add]

theorem SimR.opd_ok {N B : Nat} {w0 : World} {S0 : Nat → Prop} {env : Env} {a : Act} {w : World} {rows : Nat → List Nat} (h : SimR N B w0 S0 env a w rows) (x : Operand) :
    AVR w (SS B S0 w rows) env (Act.f a) (opd env x) (a.eval x) [] := by
  cases x with
  | tmp t =>
    have hr := h.rel t
    show AVR w (SS B S0 w rows) env (Act.f a) ((env.get t).asOpd t) (Act.f a t) []
    unfold AV.asOpd
    split
    · rename_i z els he
      rw [he] at hr
      exact ⟨rfl, _, _, by rw [Env.root, he]; rfl, rfl⟩
    · rename_i l he
      rw [he] at hr
      have hr := CzS.one_inv hr
      generalize hv : Act.f a t = v at *
      generalize rows t = rs at *
      cases hr with
      | bx b l T cs rs hb hl => exact ⟨rfl, _, .pointer (some ⟨b, 0, none⟩), _, l, ⟨b, 0, none⟩, by rw [Env.root, he]; rfl, by rw [hv]; rfl, rfl, rfl, by simp [Addr.add]⟩
    · rename_i l he
      rw [he] at hr
      split
      · rename_i hfl
        generalize Act.f a t = v at *
        generalize rows t = rs at *
        cases hr with
        | ag vs l rs hl => rw [hl.flat_rows hfl] at hl; exact .ag vs l [] hl
      · trivial
    · trivial
    · rename_i av he
      rw [he] at hr
      exact hr.2.1 rfl
    · rename_i h1 h2 h3 h4 h5
      generalize he : env.get t = av at *
      generalize Act.f a t = v at *
      generalize rows t = rs at *
      cases av with
      | no => trivial
      | undef => exact ⟨hr.1, rfl⟩
      | sv x =>
        cases x with
        | one x =>
          have hfl : x.flat = true := by
            cases x with
            | ow z els => exact (h1 z els rfl).elim
            | bx l => exact (h2 l rfl).elim
            | _ => rfl
          have hr := CzS.one_inv hr
          rw [hr.flat_rows hfl] at hr
          exact .one _ _ _ hr
        | ag l => exact (h3 l rfl).elim
      | tup l => exact (h4 l rfl).elim
      | al s p => exact ⟨rfl, hr.2⟩
      | pt s p i j => exact ⟨rfl, hr.2⟩
      | sub s p lo hi => exact ⟨rfl, hr.2⟩
      | bsl s p n => exact ⟨rfl, hr.2⟩
      | gd c a => exact ⟨rfl, hr.2⟩
  | const v => exact constAV_ok v
  | func f => exact .one _ _ _ (.raw _ rfl)
  | _ => trivial

section
variable {P : Program} {w : World}

theorem run_sizeOf {t : TypeId} {n : Nat} (h : sizeT P t = some n) : (sizeOf t).run P w = .ok n w := by
  unfold sizeT at h
  cases hi : P.info? t with
  | none => simp [hi] at h
  | some i =>
    simp [hi] at h
    simp [sizeOf, typeInfo, hi, h]

theorem run_isAgg {t : TypeId} {b : Bool} (h : kindT P t = some b) : (isAgg t).run P w = .ok b w := by
  unfold kindT at h
  cases hu : P.underlying t with
  | none => simp [hu] at h
  | some d =>
    simp only [isAgg, Sem.run_bind, run_underlying hu, Result.andThen_ok]
    cases d <;> simp [hu] at h <;> subst h <;> rfl

theorem run_loadVar_one {t : TypeId} {a : Addr} {c : Value} (h : kindT P t = some false) (hc : w.cell? a = some c) : (loadVar t a).run P w = .ok c w := by
  simp only [loadVar, Sem.run_bind, run_isAgg h, Result.andThen_ok, Bool.false_eq_true, if_false]
  simp [load, Sem.run, hc]

theorem run_loadVar_agg {t : TypeId} {a : Addr} {vs : List Value} (h : kindT P t = some true) (hs : sizeT P t = some vs.length) (hc : ∀ j u, vs[j]? = some u → w.cell? (a.add j) = some u) : (loadVar t a).run P w = .ok (.agg vs.toArray) w := by
  simp only [loadVar, Sem.run_bind, run_isAgg h, Result.andThen_ok, if_true, run_sizeOf hs, run_loadCells_list (P := P) w a vs hc]
  rfl

theorem run_value {m : Sem Value} {v : Value} {w' : World} (h : m.run P w = .ok v w') : (do pure (Next.value (← m)) : Sem Next).run P w = .ok (.value v) w' := by
  simp [h]
end

theorem cat_append {w : World} {u : Value} {y : DV} (q : List (Nat × Nat)) : ∀ (p : List (Nat × Nat)) {v : Value} {x : DV}, cat w v x p = some (u, y) → cat w v x (p ++ q) = cat w u y q
  | [], v, x, h => by
    simp only [cat, Option.some.injEq, Prod.mk.injEq] at h
    obtain ⟨rfl, rfl⟩ := h
    rfl
  | (i, j) :: p, v, x, hc => by
    simp only [cat] at hc
    split at hc
    · rename_i el ad he hb
      split at hc
      · rename_i d c hd hcell
        simp only [List.cons_append, cat, he, hb, hd, hcell]
        exact cat_append q p hc
      · cases hc
    · cases hc

/-- What lies at a place that a slot leads to. -/
def Env.at (env : Env) (s : Nat) (p : List (Nat × Nat)) : Option DV :=
  match env.root s with
  | some x => getP x p
  | none => none

def AV.asCell (s : Nat) (p : List (Nat × Nat)) : DV → AV
  | .ow _ _ => .al s p
  | .bx _ => .pt s p 0 0
  | d => .sv (.one d)

/-- An operation yields v in this world and in every later one in which this world's blocks are as they are. -/
def Yields (P : Program) (o : Oper) (a : Act) (w : World) (v : Value) : Prop := ∀ w', Below w.heap.size w w' → (execOp a.eval o).run P w' = .ok (.value v) w'

section
variable {P : Program} {N B : Nat} {w0 : World} {S0 : Nat → Prop} {env : Env} {a : Act} {w : World} {rows : Nat → List Nat}

/-- The root of a place: its data in memory. -/
theorem SimR.root_cz (h : SimR N B w0 S0 env a w rows) {s : Nat} {x : DV} (hx : env.root s = some x) : Cz w (SS B S0 w rows) (Act.f a s) x (rows s) := by
  have hr := h.rel s
  unfold Env.root AV.asOne at hx
  split at hx
  · rename_i x' he
    rw [he] at hr
    injection hx with hx
    subst hx
    exact CzS.one_inv hr
  · cases hx

theorem SimR.place (h : SimR N B w0 S0 env a w rows) {s : Nat} {p : List (Nat × Nat)} {x : DV} {u : Value} {y y' : DV} (hx : env.root s = some x) (hc : cat w (Act.f a s) x p = some (u, y)) (hy : env.at s p = some y') :
    y' = y ∧ ∃ r, Cz w (SS B S0 w rows) u y r ∧ ∀ b ∈ r, b ∈ rows s := by
  have e : getP x p = some y := cat_getP p hc
  simp only [Env.at, hx, e, Option.some.injEq] at hy
  subst hy
  obtain ⟨u', r, h1, h2, h3⟩ := (h.root_cz hx).cat_of p e
  rw [hc] at h1
  simp only [Option.some.injEq, Prod.mk.injEq] at h1
  obtain ⟨rfl, _⟩ := h1
  exact ⟨rfl, r, h2, h3⟩

theorem SimR.cell_below (_ : SimR N B w0 S0 env a w rows) {w' : World} (hb : Below w.heap.size w w') {ad : Addr} {c : Value} (hc : w.cell? ad = some c) : w'.cell? ad = some c :=
  (hb.cell (World.block_lt_of_cell? w ad hc)).trans hc
end

def aload (P : Program) (env : Env) (t : TypeId) (x : Operand) : Option (Prop × AV) :=
  match kindT P t, sizeT P t with
  | some g, some n =>
    match opd env x with
    | .sv (.one (.rf l)) =>
      match g with
      | true => some (n ≤ l.length, .sv (.ag (l.take n)))
      | false => match l with
        | d :: _ => some (True, .sv (.one d))
        | [] => none
    | .pt s p i j =>
      match env.at s p with
      | some y => match y.elAt i with
        | some el => match g with
          | true => some (j + n ≤ el.length ∧ ((el.drop j).take n).all DV.flat = true, .sv (.ag ((el.drop j).take n)))
          | false => match el[j]? with
            | some d => some (True, AV.asCell s (p ++ [(i, j)]) d)
            | none => none
        | none => none
      | none => none
    | _ => none
  | _, _ => none

section
variable {P : Program} {N B : Nat} {w0 : World} {S0 : Nat → Prop} {env : Env} {a : Act} {w : World} {rows : Nat → List Nat}

theorem aload_ok (h : SimR N B w0 S0 env a w rows) {o : Oper} {t : TypeId} {x : Operand} (ho : o.op = .load t x) {ob : Prop} {av : AV} (he : aload P env t x = some (ob, av)) (hob : ob) :
    ∃ v, Yields P o a w v ∧ AVR w (SS B S0 w rows) env (Act.f a) av v [] := by
  have hx := h.opd_ok x
  unfold aload at he
  split at he
  · rename_i g n hk hs
    split at he
    · rename_i l hopd
      rw [hopd] at hx
      have hx := CzS.one_inv hx
      generalize hv : a.eval x = vx at *
      cases hx with
      | rf ad l vs hS hcell hl =>
        cases g with
        | true =>
          simp only [Option.some.injEq, Prod.mk.injEq] at he
          obtain ⟨rfl, rfl⟩ := he
          obtain ⟨r1, r2, e1, h1, _⟩ := CzL.split n hl
          have e0 : r1 = [] := by
            have := congrArg List.length e1
            simp at this
            exact List.eq_nil_of_length_eq_zero (by omega)
          subst e0
          refine ⟨.agg (vs.take n).toArray, fun w' hw' => ?_, .ag _ _ _ (by simpa using h1)⟩
          simp only [execOp, ho, hv, Instr.loadAt, Instr.sureAddr]
          refine run_value ?_
          simp only [Sem.run_bind, Sem.run_pure, Result.andThen_ok]
          refine run_loadVar_agg hk ?_ ?_
          · rw [List.length_take, hl.length, hs]; congr 1; omega
          · intro j u hu
            refine h.cell_below hw' (hcell j u ?_)
            rw [List.getElem?_take] at hu
            split at hu
            · exact hu
            · cases hu
        | false =>
          cases l with
          | nil => simp at he
          | cons d l =>
            simp only [Option.some.injEq, Prod.mk.injEq] at he
            obtain ⟨rfl, rfl⟩ := he
            obtain ⟨v, r, hv0, hc, hr0⟩ := hl.get (i := 0) rfl
            have e0 : r = [] := List.eq_nil_iff_forall_not_mem.2 fun b hb => by simpa using hr0 b hb
            subst e0
            refine ⟨v, fun w' hw' => ?_, .one _ _ _ hc⟩
            simp only [execOp, ho, hv, Instr.loadAt, Instr.sureAddr]
            refine run_value ?_
            simp only [Sem.run_bind, Sem.run_pure, Result.andThen_ok]
            have := hcell 0 v hv0
            rw [add_zero] at this
            exact run_loadVar_one hk (h.cell_below hw' this)
    · rename_i s p i j hopd
      rw [hopd] at hx
      obtain ⟨_, x', u, y, el, ad, hroot, hcat, hel, hbase, hval⟩ := hx
      split at he
      · rename_i y' hat
        obtain ⟨rfl, r, hcz, hr⟩ := h.place hroot hcat hat
        rw [hel] at he
        dsimp only at he
        obtain ⟨b, o', z, T, cs, r0, vs, rfl, hbase', hb, hlz, hsz, hvs, ⟨r1, rm, r2, _, hall⟩, hup⟩ := hcz.row hel
        rw [hbase] at hbase'
        injection hbase' with hbase'
        subst hbase'
        have hcells : ∀ j u, vs[j]? = some u → w.cell? ((⟨b, o', none⟩ : Addr).add (i * el.length + j)) = some u := by
          intro j u hu
          rw [hlz, add_mk, ← Nat.add_assoc, cell_of_row w b _ cs T (0, 0) hb]
          rw [hvs, List.getElem?_take] at hu
          split at hu
          · rw [List.getElem?_drop] at hu
            simpa using hu
          · cases hu
        split at he
        · simp only [Option.some.injEq, Prod.mk.injEq] at he
          obtain ⟨rfl, rfl⟩ := he
          obtain ⟨hle, hfl⟩ := hob
          obtain ⟨q1, qm, q2, _, hmid, _⟩ := hup j n (by omega)
          rw [hmid.flat_rows hfl] at hmid
          refine ⟨.agg ((vs.drop j).take n).toArray, fun w' hw' => ?_, .ag _ _ _ (by simpa using hmid)⟩
          simp only [execOp, ho, hval, Instr.loadAt, Instr.sureAddr]
          refine run_value ?_
          simp only [Sem.run_bind, Sem.run_pure, Result.andThen_ok]
          have hlen := hall.length
          refine run_loadVar_agg hk ?_ ?_
          · rw [List.length_take, List.length_drop, hs]; congr 1; omega
          · intro k u hu
            rw [List.getElem?_take] at hu
            split at hu
            · rw [List.getElem?_drop] at hu
              have := hcells (j + k) u hu
              refine h.cell_below hw' ?_
              rw [add_of_add, Nat.add_assoc]
              exact this
            · cases hu
        · split at he
          · rename_i d hd
            simp only [Option.some.injEq, Prod.mk.injEq] at he
            obtain ⟨rfl, rfl⟩ := he
            obtain ⟨b', o2, c, q1, qm, q2, hq, hbase2, hcell, hcz2, _⟩ := hcz.rowCell hel hd
            rw [hbase] at hbase2
            injection hbase2 with hbase2
            injection hbase2 with e1 e2 _
            subst e1
            subst e2
            have hcat2 : cat w (Act.f a s) x' (p ++ [(i, j)]) = some (c, d) := by
              rw [cat_append _ p hcat]
              simp [cat, hel, hbase, hd, hcell]
            refine ⟨c, fun w' hw' => ?_, ?_⟩
            · simp only [execOp, ho, hval, Instr.loadAt, Instr.sureAddr]
              refine run_value ?_
              simp only [Sem.run_bind, Sem.run_pure, Result.andThen_ok]
              exact run_loadVar_one hk (h.cell_below hw' hcell)
            · unfold AV.asCell
              split
              · exact ⟨rfl, _, _, hroot, hcat2⟩
              · rename_i l
                generalize hc' : c = c' at *
                cases hcz2 with
                | bx b3 l T3 cs3 rs3 hb3 hl3 => exact ⟨rfl, _, _, _, l, ⟨b3, 0, none⟩, hroot, hcat2, rfl, rfl, by simp [Addr.add]⟩
              · rename_i h1 h2
                have hfl : d.flat = true := by
                  cases d with
                  | ow z els => exact (h1 z els rfl).elim
                  | bx l => exact (h2 l rfl).elim
                  | _ => rfl
                rw [hcz2.flat_rows hfl] at hcz2
                exact .one _ _ _ hcz2
          · cases he
      · cases he
    · cases he
  · cases he
end

end Go.Av
