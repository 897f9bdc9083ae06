/- Part of a proof. -/
import Derived.Test.YtbfebdbdoclagaaGreatDoorF1
import Derived.ChangeKeysEq
set_option linter.unusedVariables false
set_option linter.unusedSimpArgs false
set_option maxHeartbeats 64000000
namespace Go.Av
open Go Go.RowKit
def afield (P : Program) (env : Env) (t : TypeId) (x : Operand) (f : Nat) : Option (Prop × AV) :=
 match fldT P t f with
 | some (off, ft) => match sizeT P ft with
   | some (_ + 1) => match opd env x with
     | .sv (.one (.rf l)) => some (True, .sv (.one (.rf (l.drop off))))
     | .pt s p i j => some (True, .pt s p i (j + off))
     | _ => none
   | _ => none
 | none => none
def sliceOf (env : Env) : AV -> Option (List (List DV))
 | .sv (.one x) => x.elsOf
 | .al s p => match env.at s p with
   | some y => y.elsOf
   | none => none
 | .sub s p lo hi => match env.at s p with
   | some y => match y.elsOf with
     | some els => some ((els.drop lo).take (hi - lo))
     | none => none
   | none => none
 | _ => none
def aindex (P : Program) (env : Env) (t : TypeId) (x i : Operand) : Option (Prop × AV) :=
 match opd env i with
 | .sv (.one (.int _ n)) =>
   match elT P t with
   | some e => match sizeT P e with
     | some z => match opd env x with
       | .sv (.one (.sl els)) => match els[n.toNat]? with
         | some el => some (0 <= n /\ el.length = z, .sv (.one (.rf el)))
         | none => none
       | .al s p => match env.at s p with
         | some (.ow _ els) => match els[n.toNat]? with
           | some el => some (0 <= n /\ el.length = z, .pt s p n.toNat 0)
           | none => none
         | some (.sl els) => match els[n.toNat]? with
           | some el => some (0 <= n /\ el.length = z, .sv (.one (.rf el)))
           | none => none
         | _ => none
       | .sub s p lo hi => match env.at s p with
         | some (.ow _ els) => match els[lo + n.toNat]? with
           | some el => some (0 <= n /\ n.toNat < hi - lo /\ el.length = z, .pt s p (lo + n.toNat) 0)
           | none => none
         | _ => none
       | _ => none
     | none => none
   | none => match arrT P t with
     | some (len, e) => match sizeT P e with
       | some z => match opd env x with
         | .pt s p i j => some (0 <= n /\ n < len, .pt s p i (j + n.toNat * z))
         | .sv (.one (.rf l)) => some (0 <= n /\ n < len, .sv (.one (.rf (l.drop (n.toNat * z)))))
         | _ => none
       | none => none
     | none => none
 | _ => none
section
variable {P : Program} {N B : Nat} {w0 : World} {S0 : Nat -> Prop} {env : Env} {a : Act} {w : World} {rows : Nat -> List Nat}
theorem Cz.rf_drop {w : World} {S : Nat -> Prop} {v : Value} {l : List DV} {r : List Nat} (h : Cz w S v (.rf l) r) (k : Nat) : r = [] /\ ∃ ad, v = .pointer (some ad) /\ Cz w S (.pointer (some (ad.add k))) (.rf (l.drop k)) [] := by
 cases h with
 | rf ad l vs hS hcell hl =>
   refine ⟨rfl, ad, rfl, ?_⟩
   obtain ⟨r1, r2, e, _, h2⟩ := CzL.split k hl
   have e2 : r2 = [] := by
    have := congrArg List.length e
    simp at this
    exact List.eq_nil_of_length_eq_zero (by omega)
   subst e2
   refine .rf _ _ (vs.drop k) (by rw [block_of_add]; exact hS) ?_ h2
   intro j u hu
   rw [List.getElem?_drop] at hu
   rw [add_of_add]
   exact hcell _ _ hu
theorem run_fieldAt {t : TypeId} {f off : Nat} {ft : TypeId} {n : Nat} {ad : Addr} (h : fldT P t f = some (off, ft)) (hs : sizeT P ft = some (n + 1)) : (Instr.fieldAt t (.pointer (some ad)) f).run P w = .ok (.pointer (some (ad.add off))) w := by
 unfold fldT at h
 split at h
 ·rename_i fs hu
  cases hf : fs[f]? with
  | none => simp [hf] at h
  | some fd =>
    simp [hf] at h
    obtain ⟨rfl, rfl⟩ := h
    simp [Instr.fieldAt, run_underlying hu, hf, Instr.sureAddr, fieldPlace, run_sizeOf hs]
 ·cases h
theorem afield_ok (h : SimR N B w0 S0 env a w rows) {o : Oper} {t : TypeId} {x : Operand} {f : Nat} (ho : o.op = .fieldAddr t x f) {ob : Prop} {av : AV} (he : afield P env t x f = some (ob, av)) :
  ∃ v, Yields P o a w v /\ AVR w (SS B S0 w rows) env (Act.f a) av v [] := by
 have hx := h.opd_ok x
 unfold afield at he
 split at he
 ·rename_i off ft hfd
  split at he
  ·rename_i n hs
   split at he
   ·rename_i l hopd
    rw [hopd] at hx
    have hx := CzS.one_inv hx
    simp only [Option.some.injEq, Prod.mk.injEq] at he
    obtain ⟨rfl, rfl⟩ := he
    obtain ⟨_, ad, hv, hcz⟩ := hx.rf_drop off
    refine ⟨_, fun w' hw' => ?_, .one _ _ _ hcz⟩
    simp only [execOp, ho, hv]
    exact run_value (run_fieldAt hfd hs)
   ·rename_i s p i j hopd
    rw [hopd] at hx
    simp only [Option.some.injEq, Prod.mk.injEq] at he
    obtain ⟨rfl, rfl⟩ := he
    obtain ⟨_, x', u, y, el, ad, h1, h2, h3, h4, h5⟩ := hx
    refine ⟨_, fun w' hw' => ?_, rfl, x', u, y, el, ad, h1, h2, h3, h4, rfl⟩
    simp only [execOp, ho, h5]
    rw [run_value (run_fieldAt hfd hs), add_of_add, Nat.add_assoc]
   ·cases he
  ·cases he
 ·cases he
theorem Cz.slice_len {w : World} {S : Nat -> Prop} {v : Value} {x : DV} {els : List (List DV)} {r : List Nat} (h : Cz w S v x r) (he : x.elsOf = some els) : ∃ A c, v = .slice A els.length c /\ els.length <= c /\ (els ≠ [] -> ∃ ad, A = some ad) := by
 cases h with
 | nil => injection he with he; subst he; exact ⟨none, 0, rfl, by simp, by simp⟩
 | shNil A c => injection he with he; subst he; exact ⟨A, c, rfl, by simp, by simp⟩
 | owNil => injection he with he; subst he; exact ⟨none, 0, rfl, by simp, by simp⟩
 | sh ad n c z els vs hS hn hc hm hz hcell hl => injection he with he; subst he; subst hn; exact ⟨some ad, c, rfl, hc, fun _ => ⟨ad, rfl⟩⟩
 | ow b off n c z els T cs rs hb hn hc hm hsz hz hl => injection he with he; subst he; subst hn; exact ⟨_, c, rfl, hc, fun _ => ⟨_, rfl⟩⟩
 | _ => cases he
theorem SimR.slice_of (h : SimR N B w0 S0 env a w rows) {av : AV} {v : Value} (hv : AVR w (SS B S0 w rows) env (Act.f a) av v []) {els : List (List DV)} (he : sliceOf env av = some els) : ∃ A c, v = .slice A els.length c := by
 unfold sliceOf at he
 split at he
 ·obtain ⟨A, c, h1, _⟩ := (CzS.one_inv hv).slice_len he
  exact ⟨A, c, h1⟩
 ·obtain ⟨_, x, y, h1, h2⟩ := hv
  split at he
  ·rename_i y' hat
   obtain ⟨rfl, r, h3, _⟩ := h.place h1 h2 hat
   obtain ⟨A, c, h4, _⟩ := h3.slice_len he
   exact ⟨A, c, h4⟩
  ·cases he
 ·rename_i s' p' lo' hi'
  obtain ⟨_, x, y, A, n, c, els', h1, h2, h3, h4, h5, h6, h7, z, h8, h9⟩ := hv
  split at he
  ·rename_i y' hat
   obtain ⟨rfl, r, _, _⟩ := h.place h1 h2 hat
   rw [h3] at he
   injection he with he
   subst he
   refine ⟨(if c = lo' then A else A.map (·.add (lo' * z))), c - lo', ?_⟩
   rw [h9, List.length_take, List.length_drop, h4]
   congr 1; omega
  ·cases he
 ·cases he
theorem run_indexAt {t e : TypeId} {z : Nat} {ad : Addr} {n c : Nat} {k : IntKind} {i : Int} (h : elT P t = some e) (hs : sizeT P e = some z) (h0 : 0 <= i) (h1 : i.toNat < n) :
  (Instr.indexAt t (.slice (some ad) n c) (.int k i)).run P w = .ok (.pointer (some (ad.add (i.toNat * z)))) w := by
 unfold elT at h
 split at h
 ·rename_i e' hu
  injection h with h
  subst h
  have hi : 0 <= i /\ i < (n : Int) := by omega
  simp [Instr.indexAt, asIntOf, run_underlying hu, run_sizeOf hs, hi]
 ·cases h
theorem run_indexAtArr {t e : TypeId} {z len : Nat} {ad : Addr} {k : IntKind} {i : Int} (h : arrT P t = some (len, e)) (hs : sizeT P e = some z) (h0 : 0 <= i) (h1 : i < len) :
  (Instr.indexAt t (.pointer (some ad)) (.int k i)).run P w = .ok (.pointer (some (ad.add (i.toNat * z)))) w := by
 unfold arrT at h
 split at h
 ·rename_i n' e' hu
  injection h with h
  injection h with ha hb
  subst ha
  subst hb
  simp [Instr.indexAt, asIntOf, run_underlying hu, run_sizeOf hs, h0, h1, Instr.sureAddr]
 ·cases h
theorem Cz.sh_at {w : World} {S : Nat -> Prop} {v : Value} {els : List (List DV)} {r : List Nat} (h : Cz w S v (.sl els) r) {i : Nat} {el : List DV} (hi : els[i]? = some el) :
  ∃ ad c, v = .slice (some ad) els.length c /\ i < els.length /\ Cz w S (.pointer (some (ad.add (i * el.length)))) (.rf el) [] := by
 have hlt : i < els.length := (List.getElem?_eq_some_iff.1 hi).1
 have he : els[i] = el := (List.getElem?_eq_some_iff.1 hi).2
 cases h with
 | shNil => simp at hlt
 | sh ad n c z els vs hS hn hc hm hz hcell hl =>
   subst hn
   have hel : el.length = z := hz el (by rw [<- he]; exact List.getElem_mem hlt)
   refine ⟨ad, c, rfl, hlt, ?_⟩
   obtain ⟨r1, r2, e, _, h2⟩ := CzL.split (i * z) hl
   obtain ⟨r3, r4, e', h3, _⟩ := CzL.split z h2
   have e3 : r3 = [] := by
    have := congrArg List.length e
    have := congrArg List.length e'
    simp at *
    exact List.eq_nil_of_length_eq_zero (by omega)
   subst e3
   rw [flatten_at hz hi] at h3
   refine .rf _ _ _ (by rw [block_of_add]; exact hS) ?_ h3
   intro j u hu
   rw [List.getElem?_take] at hu
   split at hu
   ·rw [List.getElem?_drop] at hu
    rw [add_of_add, hel]
    exact hcell _ _ hu
   ·cases hu
theorem aindex_ok (h : SimR N B w0 S0 env a w rows) {o : Oper} {t : TypeId} {x i : Operand} (ho : o.op = .indexAddr t x i) {ob : Prop} {av : AV} (he : aindex P env t x i = some (ob, av)) (hob : ob) :
  ∃ v, Yields P o a w v /\ AVR w (SS B S0 w rows) env (Act.f a) av v [] := by
 have hx := h.opd_ok x
 have hi := h.opd_ok i
 unfold aindex at he
 split at he
 ·rename_i k n hopi
  rw [hopi] at hi
  have hi := CzS.one_inv hi
  generalize hvi : a.eval i = vi at *
  generalize hnil : ([] : List Nat) = rr at hi
  cases hi
  clear hnil
  split at he
  ·rename_i e helT
   split at he
   ·rename_i z hs
    split at he
    ·rename_i els hopx
     rw [hopx] at hx
     have hx := CzS.one_inv hx
     split at he
     ·rename_i el hel
      simp only [Option.some.injEq, Prod.mk.injEq] at he
      obtain ⟨rfl, rfl⟩ := he
      obtain ⟨h0, hz⟩ := hob
      obtain ⟨ad, c, hv, hlt, hcz⟩ := hx.sh_at hel
      rw [hz] at hcz
      refine ⟨_, fun w' hw' => ?_, .one _ _ _ hcz⟩
      simp only [execOp, ho, hv, hvi]
      exact run_value (run_indexAt helT hs h0 hlt)
     ·cases he
    ·rename_i s p hopx
     rw [hopx] at hx
     obtain ⟨_, x', y, h1, h2⟩ := hx
     split at he
     ·rename_i zz els hat
      obtain ⟨rfl, r, hcz, _⟩ := h.place h1 h2 hat
      split at he
      ·rename_i el hel
       simp only [Option.some.injEq, Prod.mk.injEq] at he
       obtain ⟨rfl, rfl⟩ := he
       obtain ⟨h0, hz⟩ := hob
       have hlt : n.toNat < els.length := (List.getElem?_eq_some_iff.1 hel).1
       obtain ⟨A, c, hv, _, hA⟩ := hcz.slice_len rfl
       obtain ⟨ad, rfl⟩ := hA (by intro e; rw [e] at hlt; simp at hlt)
       refine ⟨_, fun w' hw' => ?_, rfl, x', _, _, el, ad, h1, h2, hel, by rw [hv]; rfl, rfl⟩
       simp only [execOp, ho, hv, hvi]
       rw [run_value (run_indexAt helT hs h0 hlt), hz]; rfl
      ·cases he
     ·rename_i els hat
      obtain ⟨rfl, r, hcz, _⟩ := h.place h1 h2 hat
      split at he
      ·rename_i el hel
       simp only [Option.some.injEq, Prod.mk.injEq] at he
       obtain ⟨rfl, rfl⟩ := he
       obtain ⟨h0, hz⟩ := hob
       obtain ⟨ad, c, hv, hlt, hcz⟩ := hcz.sh_at hel
       rw [hz] at hcz
       refine ⟨_, fun w' hw' => ?_, .one _ _ _ hcz⟩
       simp only [execOp, ho, hv, hvi]
       exact run_value (run_indexAt helT hs h0 hlt)
      ·cases he
     ·cases he
    ·rename_i s p lo hi' hopx
     rw [hopx] at hx
     obtain ⟨_, x', y, A, n', c, els', h1, h2, h3, h4, h5, h6, h7, z', h8, h9⟩ := hx
     split at he
     ·rename_i zz els hat
      obtain ⟨rfl, r, hcz, _⟩ := h.place h1 h2 hat
      injection h3 with h3
      subst h3
      split at he
      ·rename_i el hel
       simp only [Option.some.injEq, Prod.mk.injEq] at he
       obtain ⟨rfl, rfl⟩ := he
       obtain ⟨h0, hlt, hz⟩ := hob
       have hlt' : lo + n.toNat < els.length := (List.getElem?_eq_some_iff.1 hel).1
       have hee : els[lo + n.toNat] = el := (List.getElem?_eq_some_iff.1 hel).2
       have hzz : z' = z := by rw [<- h8 el (by rw [<- hee]; exact List.getElem_mem hlt'), hz]
       subst hzz
       obtain ⟨A', c', hv, _, hA⟩ := hcz.slice_len rfl
       injection hv with hv1 hv2 hv3
       obtain ⟨ad, hA⟩ := hA (by intro e; rw [e] at hlt'; simp at hlt')
       subst hv1
       subst hA
       rw [if_neg (by omega)] at h9
       refine ⟨_, fun w' hw' => ?_, rfl, x', _, _, el, ad, h1, h2, hel, rfl, rfl⟩
       simp only [execOp, ho, h9, hvi, Option.map_some]
       rw [run_value (run_indexAt helT hs h0 hlt), add_of_add, hz, Nat.add_mul]; rfl
      ·cases he
     ·cases he
    ·cases he
   ·cases he
  ·split at he
   ·rename_i len e harr
    split at he
    ·rename_i z hs
     split at he
     ·rename_i s p i' j hopx
      rw [hopx] at hx
      simp only [Option.some.injEq, Prod.mk.injEq] at he
      obtain ⟨rfl, rfl⟩ := he
      obtain ⟨_, x', u, y, el, ad, h1, h2, h3, h4, h5⟩ := hx
      refine ⟨_, fun w' hw' => ?_, rfl, x', u, y, el, ad, h1, h2, h3, h4, rfl⟩
      simp only [execOp, ho, h5, hvi]
      rw [run_value (run_indexAtArr harr hs hob.1 hob.2), add_of_add, Nat.add_assoc]
     ·rename_i l hopx
      rw [hopx] at hx
      have hx := CzS.one_inv hx
      simp only [Option.some.injEq, Prod.mk.injEq] at he
      obtain ⟨rfl, rfl⟩ := he
      obtain ⟨_, ad, hv, hcz⟩ := hx.rf_drop (n.toNat * z)
      refine ⟨_, fun w' hw' => ?_, .one _ _ _ hcz⟩
      simp only [execOp, ho, hv, hvi]
      exact run_value (run_indexAtArr harr hs hob.1 hob.2)
     ·cases he
    ·cases he
   ·cases he
 ·cases he
end
end Go.Av
namespace Go.Av
open Go Go.RowKit
def boolT (P : Program) (t : TypeId) : Bool :=
 match P.underlying t with
 | some .bool => true
 | _ => false
def cmpT (P : Program) : Nat -> TypeId -> Option (List (Nat × Nat))
 | 0, _ => none
 | d + 1, t =>
   match P.underlying t with
   | some (.int _) => some [(0, 0)]
   | some .bool => some [(0, 1)]
   | some .string => some [(0, 2)]
   | some (.struct fs) => if P.stoodInHeld t then none else match sizeT P t with
     | some tot => cmpFields P tot (cmpT P d) fs.toList
     | none => none
   | some (.array n e) => match sizeT P e, sizeT P t, cmpT P d e with
     | some c, some tot, some is => if tot = n * c /\ c ≠ 0 then some ((List.range n).flatMap fun i => is.map (fun x => (i * c + x.1, x.2))) else none
     | _, _, _ => none
   | _ => none
where
 cmpFields (P : Program) (tot : Nat) (sub : TypeId -> Option (List (Nat × Nat))) : List Field -> Option (List (Nat × Nat))
  | [] => some []
  | f :: fs => match sub f.type, sizeT P f.type, cmpFields P tot sub fs with
    | some m, some n, some l => if f.name = "_" \/ n = 0 \/ tot < f.offset + n then none else some (m.map (fun x => (f.offset + x.1, x.2)) ++ l)
    | _, _, _ => none
def cellEq : Nat -> DV -> DV -> Option Bool
 | 0, .int k a, .int k' b => if k = k' then some (a == b) else none
 | 1, .bool a, .bool b => some (a == b)
 | 2, .str a, .str b => some (a == b)
 | _, _, _ => none
def cellsEq (l m : List DV) : List (Nat × Nat) -> Option Bool
 | [] => some true
 | (i, k) :: is => match l[i]?, m[i]? with
   | some x, some y => match cellEq k x y, cellsEq l m is with
     | some b, some c => some (b && c)
     | _, _ => none
   | _, _ => none
def ashift (op : BinOp) (k : IntKind) (a b : Int) : Option (Prop × AV) :=
 match op with
 | .shl => some (0 <= b, .sv (.one (.int k (k.wrap (a * 2 ^ min b.toNat k.bits)))))
 | .shr => some (0 <= b, .sv (.one (.int k (a.fdiv (2 ^ min b.toNat k.bits)))))
 | _ => none
def abin (P : Program) (t : TypeId) (op : BinOp) (x y : AV) : Option (Prop × AV) :=
 match x, y with
 | .sv (.one (.int k a)), .sv (.one (.int k' b)) =>
   if k = k' then
    match op with
    | .add => some (True, .sv (.one (.int k (k.wrap (a + b)))))
    | .sub => some (True, .sv (.one (.int k (k.wrap (a - b)))))
    | .mul => some (True, .sv (.one (.int k (k.wrap (a * b)))))
    | .quo => some (b ≠ 0, .sv (.one (.int k (k.wrap (a.tdiv b)))))
    | .rem => some (b ≠ 0, .sv (.one (.int k (a.tmod b))))
    | .eql => some (True, .sv (.one (.bool (a == b))))
    | .neq => some (True, .sv (.one (.bool (a != b))))
    | .lss => some (True, .sv (.one (.bool (decide (a < b)))))
    | .leq => some (True, .sv (.one (.bool (decide (a <= b)))))
    | .gtr => some (True, .sv (.one (.bool (decide (a > b)))))
    | .geq => some (True, .sv (.one (.bool (decide (a >= b)))))
    | .and => some (True, .sv (.one (.int k (k.wrap ((BitVec.ofInt k.bits a &&& BitVec.ofInt k.bits b).toNat : Int)))))
    | .or => some (True, .sv (.one (.int k (k.wrap ((BitVec.ofInt k.bits a ||| BitVec.ofInt k.bits b).toNat : Int)))))
    | .xor => some (True, .sv (.one (.int k (k.wrap ((BitVec.ofInt k.bits a ^^^ BitVec.ofInt k.bits b).toNat : Int)))))
    | .shl => some (0 <= b, .sv (.one (.int k (k.wrap (a * 2 ^ min b.toNat k.bits)))))
    | .shr => some (0 <= b, .sv (.one (.int k (a.fdiv (2 ^ min b.toNat k.bits)))))
    | _ => none
   else ashift op k a b
 | .sv (.one (.bool a)), .sv (.one (.bool b)) =>
   if boolT P t then
    match op with
    | .eql => some (True, .sv (.one (.bool (a == b))))
    | .neq => some (True, .sv (.one (.bool (!(a == b)))))
    | _ => none
   else none
 | .sv (.one (.str a)), .sv (.one (.str b)) =>
   match op with
   | .eql => some (True, .sv (.one (.bool (a == b))))
   | .neq => some (True, .sv (.one (.bool (!(a == b)))))
   | _ => none
 | .sv (.ag l), .sv (.ag m) =>
   match cmpT P 20 t, kindT P t, sizeT P t with
   | some is, some true, some n => if P.eqGuardType P.depth t then none else match cellsEq l m is with
     | some b => match op with
       | .eql => some (l.length = n /\ m.length = n, .sv (.one (.bool b)))
       | .neq => some (l.length = n /\ m.length = n, .sv (.one (.bool (!b))))
       | _ => none
     | none => none
   | _, _, _ => none
 | _, _ => none
theorem cellsEq_append (l m : List DV) : ∀ (is js : List (Nat × Nat)) (b : Bool), cellsEq l m (is ++ js) = some b -> ∃ c d, cellsEq l m is = some c /\ cellsEq l m js = some d /\ b = (c && d)
 | [], js, b, h => ⟨true, b, rfl, h, by simp⟩
 | (i, k) :: is, js, b, h => by
   simp only [List.cons_append, cellsEq] at h ⊢
   split at h
   ·split at h
    ·rename_i b1 c1 hb1 hc1
     obtain ⟨c, d, h1, h2, rfl⟩ := cellsEq_append l m is js c1 hc1
     injection h with h
     subst h
     exact ⟨b1 && c, d, by simp [hb1, h1], h2, by simp [Bool.and_assoc]⟩
    ·cases h
   ·cases h
theorem cellsEq_drop (l m : List DV) (k : Nat) : ∀ (is : List (Nat × Nat)), cellsEq l m (is.map (fun x => (k + x.1, x.2))) = cellsEq (l.drop k) (m.drop k) is
 | [] => rfl
 | (i, j) :: is => by
   simp only [List.map_cons, cellsEq, List.getElem?_drop, cellsEq_drop l m k is]
section
variable {P : Program} {w : World}
def RdA (w : World) (S : Nat -> Prop) (arr : Array Value) (l : List DV) : Prop := ∀ (i : Nat) (v : Value), arr[i]? = some v -> ∃ (d : DV) (r : List Nat), l[i]? = some d /\ Cz w S v d r
theorem RdA.extract {S : Nat -> Prop} {arr : Array Value} {l : List DV} (h : RdA w S arr l) (off n : Nat) : RdA w S (arr.extract off (off + n)) (l.drop off) := by
 intro i v hv
 rw [Array.getElem?_extract] at hv
 split at hv
 ·rw [List.getElem?_drop]
  exact h _ _ hv
 ·cases hv
theorem eqFields_run {S : Nat -> Prop} (d : Nat) (sub : TypeId -> Option (List (Nat × Nat))) (tot : Nat)
  (hsub : ∀ t is, sub t = some is -> (∀ x y a b r r' c l m, kindT P t = some false -> Cz w S x a r -> Cz w S y b r' -> cellsEq (a :: l) (b :: m) is = some c -> (Op.equalIn d t x y).run P w = .ok c w) /\
   (∀ xs ys l m c n, kindT P t = some true -> sizeT P t = some n -> xs.size = n -> ys.size = n -> RdA w S xs l -> RdA w S ys m -> cellsEq l m is = some c -> (Op.equalIn d t (.agg xs) (.agg ys)).run P w = .ok c w) /\ kindT P t ≠ none) :
  ∀ (fs : List Field) (is : List (Nat × Nat)), cmpT.cmpFields P tot sub fs = some is -> ∀ (xs ys : Array Value) (l m : List DV) (c : Bool), xs.size = tot -> ys.size = tot -> RdA w S xs l -> RdA w S ys m -> cellsEq l m is = some c -> (Op.eqFields d xs ys fs).run P w = .ok c w
 | [], is, h, xs, ys, l, m, c, _, _, _, _, hc => by
   simp only [cmpT.cmpFields, Option.some.injEq] at h
   subst h
   simp only [cellsEq, Option.some.injEq] at hc
   subst hc
   rfl
 | f :: fs, is, h, xs, ys, l, m, c, hxs, hys, hx, hy, hc => by
   simp only [cmpT.cmpFields] at h
   split at h
   ·rename_i ms n ls hm hn hl
    split at h
    ·cases h
    ·rename_i hcond
     simp only [not_or] at hcond
     injection h with h
     subst h
     obtain ⟨c1, c2, h1, h2, rfl⟩ := cellsEq_append l m _ _ c hc
     rw [cellsEq_drop] at h1
     obtain ⟨s1, s2, s3⟩ := hsub f.type ms hm
     have ih := eqFields_run d sub tot hsub fs ls hl xs ys l m c2 hxs hys hx hy h2
     have hname : f.name ≠ "_" := hcond.1
     have hrun : ∃ a b, (part f.type xs f.offset).run P w = .ok a w /\ (part f.type ys f.offset).run P w = .ok b w /\ (Op.equalIn d f.type a b).run P w = .ok c1 w := by
      cases hk : kindT P f.type with
      | none => exact (s3 hk).elim
      | some g =>
        cases g with
        | true =>
          refine ⟨.agg (xs.extract f.offset (f.offset + n)), .agg (ys.extract f.offset (f.offset + n)), ?_, ?_, ?_⟩
          ·simp [part, run_isAgg hk, run_sizeOf hn]
          ·simp [part, run_isAgg hk, run_sizeOf hn]
          ·refine s2 _ _ _ _ _ n hk hn ?_ ?_ (hx.extract _ _) (hy.extract _ _) h1
           ·simp; omega
           ·simp; omega
        | false =>
          have e1 : xs[f.offset]? = some xs[f.offset] := Array.getElem?_eq_getElem (by omega)
          have e2 : ys[f.offset]? = some ys[f.offset] := Array.getElem?_eq_getElem (by omega)
          obtain ⟨a, r, ha, hca⟩ := hx _ _ e1
          obtain ⟨b, r', hb, hcb⟩ := hy _ _ e2
          refine ⟨xs[f.offset], ys[f.offset], by simp [part, run_isAgg hk, e1], by simp [part, run_isAgg hk, e2], ?_⟩
          have l1 : l.drop f.offset = a :: l.drop (f.offset + 1) := by
           have hlt := (List.getElem?_eq_some_iff.1 ha).1
           rw [List.drop_eq_getElem_cons hlt, (List.getElem?_eq_some_iff.1 ha).2]
          have l2 : m.drop f.offset = b :: m.drop (f.offset + 1) := by
           have hlt := (List.getElem?_eq_some_iff.1 hb).1
           rw [List.drop_eq_getElem_cons hlt, (List.getElem?_eq_some_iff.1 hb).2]
          rw [l1, l2] at h1
          exact s1 _ _ _ _ _ _ _ _ _ hk hca hcb h1
     obtain ⟨a, b, r1, r2, r3⟩ := hrun
     simp only [Op.eqFields, hname, ne_eq, not_false_eq_true, if_true, Sem.run_bind, r1, r2, r3, Result.andThen_ok]
     cases c1 with
     | true => simpa using ih
     | false => rfl
   ·cases h
theorem eqItems_run {S : Nat -> Prop} (d : Nat) (e : TypeId) (ms : List (Nat × Nat)) (n tot : Nat) (hn : sizeT P e = some n) (hn0 : n ≠ 0)
  (hsub : (∀ x y a b r r' c l m, kindT P e = some false -> Cz w S x a r -> Cz w S y b r' -> cellsEq (a :: l) (b :: m) ms = some c -> (Op.equalIn d e x y).run P w = .ok c w) /\
   (∀ xs ys l m c n, kindT P e = some true -> sizeT P e = some n -> xs.size = n -> ys.size = n -> RdA w S xs l -> RdA w S ys m -> cellsEq l m ms = some c -> (Op.equalIn d e (.agg xs) (.agg ys)).run P w = .ok c w) /\ kindT P e ≠ none) :
  ∀ (is : List Nat), (∀ i ∈ is, i * n + n <= tot) -> ∀ (xs ys : Array Value) (l m : List DV) (c : Bool), xs.size = tot -> ys.size = tot -> RdA w S xs l -> RdA w S ys m -> cellsEq l m (is.flatMap fun i => ms.map (fun x => (i * n + x.1, x.2))) = some c -> (Op.eqItems d e n xs ys is).run P w = .ok c w
 | [], _, xs, ys, l, m, c, _, _, _, _, hc => by
   simp only [List.flatMap_nil, cellsEq, Option.some.injEq] at hc
   subst hc
   rfl
 | i :: is, hi, xs, ys, l, m, c, hxs, hys, hx, hy, hc => by
   rw [List.flatMap_cons] at hc
   obtain ⟨c1, c2, h1, h2, rfl⟩ := cellsEq_append l m _ _ c hc
   rw [cellsEq_drop] at h1
   obtain ⟨s1, s2, s3⟩ := hsub
   have hin : i * n + n <= tot := hi i (by simp)
   have ih := eqItems_run d e ms n tot hn hn0 ⟨s1, s2, s3⟩ is (fun j hj => hi j (by simp [hj])) xs ys l m c2 hxs hys hx hy h2
   have hrun : ∃ a b, (part e xs (i * n)).run P w = .ok a w /\ (part e ys (i * n)).run P w = .ok b w /\ (Op.equalIn d e a b).run P w = .ok c1 w := by
    cases hk : kindT P e with
    | none => exact (s3 hk).elim
    | some g =>
      cases g with
      | true =>
        refine ⟨.agg (xs.extract (i * n) (i * n + n)), .agg (ys.extract (i * n) (i * n + n)), ?_, ?_, ?_⟩
        ·simp [part, run_isAgg hk, run_sizeOf hn]
        ·simp [part, run_isAgg hk, run_sizeOf hn]
        ·refine s2 _ _ _ _ _ n hk hn ?_ ?_ (hx.extract _ _) (hy.extract _ _) h1
         ·simp; omega
         ·simp; omega
      | false =>
        have e1 : xs[i * n]? = some xs[i * n] := Array.getElem?_eq_getElem (by omega)
        have e2 : ys[i * n]? = some ys[i * n] := Array.getElem?_eq_getElem (by omega)
        obtain ⟨a, r, ha, hca⟩ := hx _ _ e1
        obtain ⟨b, r', hb, hcb⟩ := hy _ _ e2
        refine ⟨xs[i * n], ys[i * n], by simp [part, run_isAgg hk, e1], by simp [part, run_isAgg hk, e2], ?_⟩
        have l1 : l.drop (i * n) = a :: l.drop (i * n + 1) := by
         have hlt := (List.getElem?_eq_some_iff.1 ha).1
         rw [List.drop_eq_getElem_cons hlt, (List.getElem?_eq_some_iff.1 ha).2]
        have l2 : m.drop (i * n) = b :: m.drop (i * n + 1) := by
         have hlt := (List.getElem?_eq_some_iff.1 hb).1
         rw [List.drop_eq_getElem_cons hlt, (List.getElem?_eq_some_iff.1 hb).2]
        rw [l1, l2] at h1
        exact s1 _ _ _ _ _ _ _ _ _ hk hca hcb h1
   obtain ⟨a, b, r1, r2, r3⟩ := hrun
   simp only [Op.eqItems, Sem.run_bind, r1, r2, r3, Result.andThen_ok]
   cases c1 with
   | true => simpa using ih
   | false => rfl
theorem eq_run {S : Nat -> Prop} : ∀ (d : Nat) (t : TypeId) (is : List (Nat × Nat)), cmpT P d t = some is -> ∀ D, d <= D ->
   (∀ x y a b r r' c l m, kindT P t = some false -> Cz w S x a r -> Cz w S y b r' -> cellsEq (a :: l) (b :: m) is = some c -> (Op.equalIn D t x y).run P w = .ok c w) /\
   (∀ xs ys l m c n, kindT P t = some true -> sizeT P t = some n -> xs.size = n -> ys.size = n -> RdA w S xs l -> RdA w S ys m -> cellsEq l m is = some c -> (Op.equalIn D t (.agg xs) (.agg ys)).run P w = .ok c w) /\ kindT P t ≠ none
 | 0, t, is, h, _, _ => by simp [cmpT] at h
 | d + 1, t, is, h, 0, hD => by omega
 | d + 1, t, is, h, D + 1, hD => by
   have one : ∀ (k : Nat) (a b : DV) (l m : List DV) (c : Bool), cellsEq (a :: l) (b :: m) [(0, k)] = some c -> cellEq k a b = some c := by
    intro k a b l m c hc
    simp only [cellsEq, List.getElem?_cons_zero] at hc
    split at hc
    ·rename_i b1 c1 hb hc1
     injection hc1 with hc1
     subst hc1
     rw [hb]
     simpa using hc
    ·cases hc
   simp only [cmpT] at h
   split at h
   ·rename_i k hu
    injection h with h
    subst h
    refine ⟨fun x y a b r r' c l m _ hx hy hc => ?_, fun _ _ _ _ _ _ hk => by simp [kindT, hu] at hk, by simp [kindT, hu]⟩
    have hc := one _ _ _ _ _ _ hc
    unfold cellEq at hc
    split at hc <;> first | (cases hc; done) | skip
    ·rename_i ka na kb nb
     split at hc
     ·rename_i hkk
      subst hkk
      injection hc with hc
      subst hc
      cases hx
      cases hy
      simp [Op.equalIn, run_underlying hu]
     ·cases hc
    ·omega
    ·omega
   ·rename_i hu
    injection h with h
    subst h
    refine ⟨fun x y a b r r' c l m _ hx hy hc => ?_, fun _ _ _ _ _ _ hk => by simp [kindT, hu] at hk, by simp [kindT, hu]⟩
    have hc := one _ _ _ _ _ _ hc
    unfold cellEq at hc
    split at hc <;> first | (cases hc; done) | skip
    ·omega
    ·injection hc with hc
     subst hc
     cases hx
     cases hy
     simp [Op.equalIn, run_underlying hu]
    ·omega
   ·rename_i hu
    injection h with h
    subst h
    refine ⟨fun x y a b r r' c l m _ hx hy hc => ?_, fun _ _ _ _ _ _ hk => by simp [kindT, hu] at hk, by simp [kindT, hu]⟩
    have hc := one _ _ _ _ _ _ hc
    unfold cellEq at hc
    split at hc <;> first | (cases hc; done) | skip
    ·omega
    ·omega
    ·injection hc with hc
     subst hc
     cases hx
     cases hy
     simp [Op.equalIn, run_underlying hu]
   ·rename_i fs hu
    split at h
    ·cases h
    ·rename_i hst
     split at h
     ·rename_i tot htot
      refine ⟨fun _ _ _ _ _ _ _ _ _ hk => by simp [kindT, hu] at hk, fun xs ys l m c n _ hn hxs hys hx hy hc => ?_, by simp [kindT, hu]⟩
      rw [htot] at hn
      injection hn with hn
      subst hn
      have hfo : P.fieldsOf t = fs := by simp [Program.fieldsOf, hu]
      rw [run_equalIn_struct w D t xs ys (by rw [hfo]; exact hu) (by simpa using hst), hfo]
      exact eqFields_run D (cmpT P d) tot (fun t is h => eq_run d t is h D (by omega)) fs.toList is h xs ys l m c hxs hys hx hy hc
     ·cases h
   ·rename_i na e hu
    split at h
    ·rename_i ce tot ms hce htot hms
     split at h
     ·rename_i hcond
      injection h with h
      subst h
      refine ⟨fun _ _ _ _ _ _ _ _ _ hk => by simp [kindT, hu] at hk, fun xs ys l m c n _ hn hxs hys hx hy hc => ?_, by simp [kindT, hu]⟩
      rw [htot] at hn
      injection hn with hn
      subst hn
      obtain ⟨ie, hie, hsz⟩ : ∃ ie, P.info? e = some ie /\ ie.size = ce := by
       unfold sizeT at hce
       cases hi : P.info? e with
       | none => rw [hi] at hce; cases hce
       | some ie => rw [hi] at hce; exact ⟨ie, rfl, by simpa using hce⟩
      have hco : P.cellsOf e = ce := by simp [Program.cellsOf, hie, hsz]
      rw [run_equalIn_array w D xs ys hu hie, hco]
      refine eqItems_run D e ms ce tot hce hcond.2 (eq_run d e ms hms D (by omega)) (List.range na) ?_ xs ys l m c hxs hys hx hy hc
      intro i hi
      have := List.mem_range.1 hi
      rw [hcond.1]
      have h2 := Nat.mul_le_mul_right ce (show i + 1 <= na by omega)
      rw [Nat.succ_mul] at h2
      exact h2
     ·cases h
    ·cases h
   ·cases h
end
end Go.Av
namespace Go.Av
open Go Go.RowKit
def aun (op : UnOp) (x : AV) : Option (Prop × AV) :=
 match op, x with
 | .not, .sv (.one (.bool b)) => some (True, .sv (.one (.bool (!b))))
 | .neg, .sv (.one (.int k n)) => some (True, .sv (.one (.int k (k.wrap (0 - n)))))
 | _, _ => none
def aconv (P : Program) (dst : TypeId) (x : AV) : Option (Prop × AV) :=
 match intT P dst, x with
 | some k, .sv (.one (.int _ n)) => some (True, .sv (.one (.int k (k.wrap n))))
 | _, _ => none
def aextract (env : Env) (x : Operand) (i : Nat) : Option (Prop × AV) :=
 match x with
 | .tmp t => match env.get t with
   | .tup l => match l[i]? with
     | some (.one d) => if d.flat then some (True, .sv (.one d)) else none
     | some (.ag m) => if m.all DV.flat then some (True, .sv (.ag m)) else none
     | none => none
   | _ => none
 | _ => none
def AV.boolG : AV -> Option (Bool × Bool)
 | .sv (.one (.bool b)) => some (true, b)
 | .gd c (.sv (.one (.bool b))) => some (c, b)
 | .undef => some (false, false)
 | _ => none
def rawOpd (env : Env) : Operand -> AV
 | .tmp t => env.get t
 | .const v => constAV v
 | _ => .no
def apick (c x y : AV) : Option (Prop × AV) :=
 match c, x.boolG, y.boolG with
 | .sv (.one (.bool b)), some (gx, u), some (gy, v) => some ((b = true -> gx = true) /\ (b = false -> gy = true), .sv (.one (.bool (bif b then u else v))))
 | _, _, _ => none
def strT (P : Program) (t : TypeId) : Bool :=
 match P.underlying t with
 | some .string => true
 | _ => false
def alen (P : Program) (t : TypeId) (env : Env) (x : AV) : Option (Prop × AV) :=
 match elT P t with
 | some _ => match sliceOf env x with
   | some els => some (True, .sv (.one (.int .i64 els.length)))
   | none => none
 | none => if strT P t then match x with
   | .sv (.one (.str s)) => some (True, .sv (.one (.int .i64 s.size)))
   | _ => none
   else none
def isTup (env : Env) : Operand -> Bool
 | .tmp t => match env.get t with
   | .tup _ => true
   | _ => false
 | _ => false
def SV.flatS : SV -> Bool
 | .one d => d.flat
 | .ag m => m.all DV.flat
def flatTup (env : Env) : Operand -> Option (Prop × AV)
 | .tmp t => match env.get t with
   | .tup l => if l.all SV.flatS then some (True, .tup l) else none
   | _ => none
 | _ => none
def apure (P : Program) (env : Env) (o : Op) : Option (Prop × AV) :=
 match o with
 | .move x => if isTup env x then flatTup env x else some (True, opd env x)
 | .assign (.const v) => some (True, constAV v)
 | .assign (.tmp t) => match env.get t with
   | .sv (.one d) => if d.flat then some (True, .sv (.one d)) else none
   | .sv (.ag l) => if l.all DV.flat then some (True, .sv (.ag l)) else none
   | .tup _ => none
   | .sub _ _ _ _ => none
   | .al s [] => match env.root s with
     | some (.mp _) => none
     | _ => some (True, .al s [])
   | a => some (True, a)
 | .pick c x y => apick (opd env c) (rawOpd env x) (rawOpd env y)
 | .load t x => aload P env t x
 | .fieldAddr t x f => afield P env t x f
 | .indexAddr t x i => aindex P env t x i
 | .binOp op t x y _ => abin P t op (opd env x) (opd env y)
 | .unOp op _ x => aun op (opd env x)
 | .convert s d x => if (P.underlying s).isSome then aconv P d (opd env x) else none
 | .extract x i => aextract env x i
 | .call c => match c.callee, c.args.toList, c.argTypes.toList with
   | .builtin .len, [x], [t] => alen P t env (opd env x)
   | _, _, _ => none
 | _ => none
section
variable {P : Program} {N B : Nat} {w0 : World} {S0 : Nat -> Prop} {env : Env} {a : Act} {w : World} {rows : Nat -> List Nat}
theorem Cz.int_inv {S : Nat -> Prop} {v : Value} {k : IntKind} {n : Int} {r : List Nat} (h : Cz w S v (.int k n) r) : v = .int k n := by cases h; rfl
theorem Cz.bool_inv {S : Nat -> Prop} {v : Value} {b : Bool} {r : List Nat} (h : Cz w S v (.bool b) r) : v = .bool b := by cases h; rfl
theorem Cz.str_inv {S : Nat -> Prop} {v : Value} {b : ByteArray} {r : List Nat} (h : Cz w S v (.str b) r) : v = .string b := by cases h; rfl
theorem run_eql_bool {t : TypeId} (hu : P.underlying t = some .bool) (b c : Bool) : (binOp .eql t (.bool b) (.bool c)).run P w = .ok (.bool (b == c)) w := by
 show (do pure (Value.bool (<- Op.equal t (.bool b) (.bool c))) : Sem Value).run P w = _
 have h : (Op.equal t (.bool b) (.bool c)).run P w = .ok (b == c) w := run_equalIn_bool' w 9999 t b c hu
 simp [h]
theorem run_neq_bool {t : TypeId} (hu : P.underlying t = some .bool) (b c : Bool) : (binOp .neq t (.bool b) (.bool c)).run P w = .ok (.bool (!(b == c))) w := by
 show (do pure (Value.bool (!(<- Op.equal t (.bool b) (.bool c)))) : Sem Value).run P w = _
 have h : (Op.equal t (.bool b) (.bool c)).run P w = .ok (b == c) w := run_equalIn_bool' w 9999 t b c hu
 simp [h]
theorem CzL.rdA {S : Nat -> Prop} {zs : Array Value} {l : List DV} {r : List Nat} (hz : CzL w S zs.toList l r) : RdA w S zs l := by
 intro i v hv
 have hlt : i < zs.size := (Array.getElem?_eq_some_iff.1 hv).1
 have hlen := hz.length
 have hd : l[i]? = some (l[i]'(by simp at hlen; omega)) := List.getElem?_eq_getElem _
 obtain ⟨v', r', h1, h2, _⟩ := hz.get hd
 have e : v' = v := by
  have h3 : zs.toList[i]? = some v := by simpa using hv
  rw [h1] at h3
  injection h3
 subst e
 exact ⟨_, _, hd, h2⟩
theorem CzSL.flat_rows {S : Nat -> Prop} {vs : List Value} {l : List SV} {r : List Nat} (h : CzSL w S vs l r) (hf : l.all SV.flatS = true) : r = [] := by
 induction h with
 | nil => rfl
 | cons v x r vs xs rs h hs ih =>
   simp only [List.all_cons, Bool.and_eq_true] at hf
   rw [ih hf.2]
   cases h with
   | one _ _ _ h => rw [h.flat_rows hf.1]; rfl
   | ag _ _ _ h => rw [h.flat_rows hf.1]; rfl
theorem abin_ok (h : SimR N B w0 S0 env a w rows) {o : Oper} {t ty : TypeId} {op : BinOp} {x y : Operand} (ho : o.op = .binOp op t x y ty) {ob : Prop} {av : AV} (he : abin P t op (opd env x) (opd env y) = some (ob, av)) (hob : ob) :
  ∃ v, Yields P o a w v /\ AVR w (SS B S0 w rows) env (Act.f a) av v [] := by
 have hx := h.opd_ok x
 have hy := h.opd_ok y
 generalize opd env x = ax at *
 generalize opd env y = ay at *
 unfold abin at he
 split at he
 ·rename_i k n k' m
  have ex := (CzS.one_inv hx).int_inv
  have ey := (CzS.one_inv hy).int_inv
  split at he
  ·rename_i hk
   subst hk
   split at he <;> first
    | (cases he; done)
    | (simp only [Option.some.injEq, Prod.mk.injEq] at he
       obtain ⟨rfl, rfl⟩ := he
       refine ⟨_, fun w' _ => ?_, .one _ _ _ (.int _ _)⟩
       simp only [execOp, ho, ex, ey]
       first
        | (refine run_value ?_; simp [eqGuard_at_int, binOp, Op.intArith]; done)
        | (refine run_value ?_; simp [eqGuard_at_int, binOp, Op.intDiv, hob]; done)
        | (refine run_value ?_; simp [eqGuard_at_int, binOp, Op.intBits]; done)
        | (refine run_value ?_; simp [eqGuard_at_int, binOp, Op.shift, Int.not_lt.2 hob]; done))
    | (simp only [Option.some.injEq, Prod.mk.injEq] at he
       obtain ⟨rfl, rfl⟩ := he
       refine ⟨_, fun w' _ => ?_, .one _ _ _ (.bool _)⟩
       simp only [execOp, ho, ex, ey]
       refine run_value ?_
       simp [eqGuard_at_int, binOp, Op.intCmp])
  ·unfold ashift at he
   split at he <;> first
    | (cases he; done)
    | (simp only [Option.some.injEq, Prod.mk.injEq] at he
       obtain ⟨rfl, rfl⟩ := he
       refine ⟨_, fun w' _ => ?_, .one _ _ _ (.int _ _)⟩
       simp only [execOp, ho, ex, ey]
       refine run_value ?_
       simp [eqGuard_at_int, binOp, Op.shift, Int.not_lt.2 hob])
 ·rename_i b c
  have ex := (CzS.one_inv hx).bool_inv
  have ey := (CzS.one_inv hy).bool_inv
  split at he
  ·rename_i hb
   have hu : P.underlying t = some .bool := by
    unfold boolT at hb
    split at hb
    ·assumption
    ·cases hb
   split at he <;> first
    | (cases he; done)
    | (simp only [Option.some.injEq, Prod.mk.injEq] at he
       obtain ⟨rfl, rfl⟩ := he
       refine ⟨_, fun w' _ => ?_, .one _ _ _ (.bool _)⟩
       simp only [execOp, ho, ex, ey]
       refine run_value ?_
       simp [eqGuard_at_bool, run_eql_bool hu, run_neq_bool hu])
  ·cases he
 ·rename_i b c
  have ex := (CzS.one_inv hx).str_inv
  have ey := (CzS.one_inv hy).str_inv
  split at he <;> first
   | (cases he; done)
   | (simp only [Option.some.injEq, Prod.mk.injEq] at he
      obtain ⟨rfl, rfl⟩ := he
      refine ⟨_, fun w' _ => ?_, .one _ _ _ (.bool _)⟩
      simp only [execOp, ho, ex, ey]
      refine run_value ?_
      simp [eqGuard_at_string, binOp, Op.stringOp, beq_toListBytes])
 ·rename_i l m
  split at he
  ·rename_i is n hc hk hs
   split at he
   ·cases he
   ·rename_i hg
    split at he
    ·rename_i c hce
     generalize hvx : a.eval x = vx at *
     generalize hvy : a.eval y = vy at *
     generalize hr1 : ([] : List Nat) = r1 at hx
     generalize hr2 : ([] : List Nat) = r2 at hy
     cases hx with
     | ag xs l r1 hl =>
       cases hy with
       | ag ys m r2 hm =>
         subst hr1
         subst hr2
         have hlx := hl.length
         have hly := hm.length
         simp only [Array.length_toList] at hlx hly
         have hrun : (l.length = n /\ m.length = n) -> ∀ w', Below w.heap.size w w' -> (Op.equalIn 10000 t (.agg xs) (.agg ys)).run P w' = .ok c w' := by
          intro hln w' hb
          have hkeep : ∀ b, SS B S0 w rows b -> SS B S0 w rows b /\ w'.heap[b]? = w.heap[b]? := fun b hs => ⟨hs, hb.block b (h.lt hs)⟩
          have hl' := hl.keep hkeep (by simp)
          have hm' := hm.keep hkeep (by simp)
          exact (eq_run (S := SS B S0 w rows) 20 t is hc 10000 (by omega)).2.1 xs ys l m c n hk hs (by omega) (by omega) hl'.rdA hm'.rdA hce
         have hg' : P.eqGuardType P.depth t = false := by simpa using hg
         split at he <;> first
          | (cases he; done)
          | (simp only [Option.some.injEq, Prod.mk.injEq] at he
             obtain ⟨rfl, rfl⟩ := he
             refine ⟨_, fun w' hw' => ?_, .one _ _ _ (.bool _)⟩
             simp only [execOp, ho, hvx, hvy]
             refine run_value ?_
             simp [run_eqGuard_agg, hg', run_eql_struct, run_neq_struct, hrun hob w' hw', Result.andThen])
    ·cases he
  ·cases he
 ·cases he
theorem boolG_ok {S : Nat -> Prop} {f : Nat -> Value} {x : AV} {v : Value} {g b : Bool} {r : List Nat} (h : AVR w S env f x v r) (hx : x.boolG = some (g, b)) : g = true -> v = .bool b := by
 unfold AV.boolG at hx
 split at hx
 ·simp only [Option.some.injEq, Prod.mk.injEq] at hx
  obtain ⟨rfl, rfl⟩ := hx
  exact fun _ => (CzS.one_inv h).bool_inv
 ·simp only [Option.some.injEq, Prod.mk.injEq] at hx
  obtain ⟨rfl, rfl⟩ := hx
  exact fun hg => (CzS.one_inv (h.2.1 hg)).bool_inv
 ·simp only [Option.some.injEq, Prod.mk.injEq] at hx
  obtain ⟨rfl, rfl⟩ := hx
  exact fun hg => by cases hg
 ·cases hx
theorem SimR.rawOpd_ok (h : SimR N B w0 S0 env a w rows) (x : Operand) : ∃ r, AVR w (SS B S0 w rows) env (Act.f a) (rawOpd env x) (a.eval x) r := by
 cases x with
 | tmp t => exact ⟨_, h.rel t⟩
 | const v => exact ⟨[], constAV_ok v⟩
 | _ => exact ⟨[], trivial⟩
theorem apure_ok (h : SimR N B w0 S0 env a w rows) {o : Oper} {ob : Prop} {av : AV} (he : apure P env o.op = some (ob, av)) (hob : ob) :
  ∃ v, Yields P o a w v /\ AVR w (SS B S0 w rows) env (Act.f a) av v [] := by
 unfold apure at he
 split at he
 ·rename_i x ho
  split at he
  ·unfold flatTup at he
   split at he
   ·rename_i t _
    have hr := h.rel t
    split at he
    ·rename_i l hd
     rw [hd] at hr
     split at he
     ·rename_i hfl
      simp only [Option.some.injEq, Prod.mk.injEq] at he
      obtain ⟨rfl, rfl⟩ := he
      obtain ⟨vs, hv, hl⟩ := hr
      rw [hl.flat_rows hfl] at hl
      exact ⟨a.eval (.tmp t), fun w' _ => by simp [execOp, ho], vs, hv, hl⟩
     ·cases he
    ·cases he
   ·cases he
  ·simp only [Option.some.injEq, Prod.mk.injEq] at he
   obtain ⟨rfl, rfl⟩ := he
   exact ⟨a.eval x, fun w' _ => by simp [execOp, ho], h.opd_ok x⟩
 ·rename_i v ho
  simp only [Option.some.injEq, Prod.mk.injEq] at he
  obtain ⟨rfl, rfl⟩ := he
  exact ⟨v, fun w' _ => by simp [execOp, ho, Act.eval], constAV_ok v⟩
 ·rename_i t ho
  have hr := h.rel t
  refine ⟨Act.f a t, fun w' _ => by simp [execOp, ho, Act.eval, Act.f], ?_⟩
  generalize Act.f a t = v at *
  generalize rows t = rs at *
  split at he
  ·rename_i d hd
   rw [hd] at hr
   split at he
   ·rename_i hfl
    simp only [Option.some.injEq, Prod.mk.injEq] at he
    obtain ⟨rfl, rfl⟩ := he
    have hr := CzS.one_inv hr
    rw [hr.flat_rows hfl] at hr
    exact .one _ _ _ hr
   ·cases he
  ·rename_i l hd
   rw [hd] at hr
   split at he
   ·rename_i hfl
    simp only [Option.some.injEq, Prod.mk.injEq] at he
    obtain ⟨rfl, rfl⟩ := he
    cases hr with
    | ag vs l rs hl => rw [hl.flat_rows hfl] at hl; exact .ag vs l [] hl
   ·cases he
  ·cases he
  ·cases he
  ·rename_i s hd
   rw [hd] at hr
   split at he
   ·cases he
   ·simp only [Option.some.injEq, Prod.mk.injEq] at he
    obtain ⟨rfl, rfl⟩ := he
    exact ⟨rfl, hr.2⟩
  ·rename_i h1 h2 h3 h4 h5
   simp only [Option.some.injEq, Prod.mk.injEq] at he
   obtain ⟨rfl, rfl⟩ := he
   generalize env.get t = av at *
   cases av with
   | no => trivial
   | undef => exact ⟨hr.1, rfl⟩
   | sv x =>
     cases x with
     | one x => exact (h1 x rfl).elim
     | ag l => exact (h2 l rfl).elim
   | tup l => exact (h3 l rfl).elim
   | al s p => exact ⟨rfl, hr.2⟩
   | pt s p i j => exact ⟨rfl, hr.2⟩
   | sub s p lo hi => exact (h4 s p lo hi rfl).elim
   | bsl s p n => exact ⟨rfl, hr.2⟩
   | eqv s v => exact ⟨rfl, hr.2⟩
   | cl g caps => exact ⟨rfl, hr.2⟩
   | agl s p i => exact ⟨rfl, hr.2⟩
   | gd c a => exact ⟨rfl, hr.2⟩
 ·rename_i c x y ho
  unfold apick at he
  split at he
  ·rename_i b gx u gy v hc hx hy
   simp only [Option.some.injEq, Prod.mk.injEq] at he
   obtain ⟨rfl, rfl⟩ := he
   have hcv := h.opd_ok c
   rw [hc] at hcv
   have ec := (CzS.one_inv hcv).bool_inv
   obtain ⟨_, hrx⟩ := h.rawOpd_ok x
   obtain ⟨_, hry⟩ := h.rawOpd_ok y
   have ex := boolG_ok hrx hx
   have ey := boolG_ok hry hy
   refine ⟨.bool (bif b then u else v), fun w' _ => ?_, .one _ _ _ (.bool _)⟩
   cases b with
   | true => simp [execOp, ho, ec, asBool, ex (hob.1 rfl)]
   | false => simp [execOp, ho, ec, asBool, ey (hob.2 rfl)]
  ·cases he
 ·rename_i t x ho
  exact aload_ok h ho he hob
 ·rename_i t x f ho
  exact afield_ok h ho he
 ·rename_i t x i ho
  exact aindex_ok h ho he hob
 ·rename_i op t x y ty ho
  exact abin_ok h ho he hob
 ·rename_i op ty x ho
  have hx := h.opd_ok x
  unfold aun at he
  split at he
  ·rename_i b hopd
   rw [hopd] at hx
   have ex := (CzS.one_inv hx).bool_inv
   simp only [Option.some.injEq, Prod.mk.injEq] at he
   obtain ⟨rfl, rfl⟩ := he
   refine ⟨_, fun w' _ => ?_, .one _ _ _ (.bool _)⟩
   simp [execOp, ho, ex, Op.unary]
  ·rename_i k n hopd
   rw [hopd] at hx
   have ex := (CzS.one_inv hx).int_inv
   simp only [Option.some.injEq, Prod.mk.injEq] at he
   obtain ⟨rfl, rfl⟩ := he
   refine ⟨_, fun w' _ => ?_, .one _ _ _ (.int _ _)⟩
   simp [execOp, ho, ex, Op.unary, Op.intArith]
  ·cases he
 ·rename_i src d x ho
  have hx := h.opd_ok x
  split at he
  ·rename_i hsrc
   unfold aconv at he
   split at he
   ·rename_i k ik n hk hopd
    rw [hopd] at hx
    have ex := (CzS.one_inv hx).int_inv
    simp only [Option.some.injEq, Prod.mk.injEq] at he
    obtain ⟨rfl, rfl⟩ := he
    unfold intT at hk
    split at hk
    ·rename_i k' hu
     injection hk with hk
     subst hk
     refine ⟨.int k' (k'.wrap n), fun w' _ => ?_, .one _ _ _ (.int _ _)⟩
     simp only [execOp, ho, ex]
     refine run_value ?_
     obtain ⟨ds, hs⟩ := Option.isSome_iff_exists.1 hsrc
     cases ds <;> simp [convert, run_underlying hs, run_underlying hu, Conv.intToInt]
    ·cases hk
   ·cases he
  ·cases he
 ·rename_i x i ho
  unfold aextract at he
  split at he
  ·rename_i t
   have hr := h.rel t
   split at he
   ·rename_i l hd
    rw [hd] at hr
    obtain ⟨vs, hv, hl⟩ := hr
    have key : ∀ (l : List SV) (us : List Value) (r : List Nat) (i : Nat) (x : SV), CzSL w (SS B S0 w rows) us l r -> l[i]? = some x -> ∃ u r', us[i]? = some u /\ CzS w (SS B S0 w rows) u x r' := by
     intro l us r i x hl
     induction hl generalizing i with
     | nil => simp
     | cons v x r vs xs rs h1 _ ih =>
       intro hx
       cases i with
       | zero => simp at hx; subst hx; exact ⟨v, r, rfl, h1⟩
       | succ i => exact ih i (by simpa using hx)
    have hev : a.eval (.tmp t) = .tuple vs := hv
    have fin : ∀ x, l[i]? = some x -> ∃ u r', Yields P o a w u /\ CzS w (SS B S0 w rows) u x r' := by
     intro x hx
     obtain ⟨u, r', h1, h2⟩ := key l _ _ i x hl hx
     refine ⟨u, r', fun w' _ => ?_, h2⟩
     have h1' : vs[i]? = some u := by simpa using h1
     simp [execOp, ho, hev, Instr.extract, h1']
    split at he
    ·rename_i d hx
     split at he
     ·rename_i hfl
      simp only [Option.some.injEq, Prod.mk.injEq] at he
      obtain ⟨rfl, rfl⟩ := he
      obtain ⟨u, r', h1, h2⟩ := fin _ hx
      have h2 := CzS.one_inv h2
      rw [h2.flat_rows hfl] at h2
      exact ⟨u, h1, .one _ _ _ h2⟩
     ·cases he
    ·rename_i m hx
     split at he
     ·rename_i hfl
      simp only [Option.some.injEq, Prod.mk.injEq] at he
      obtain ⟨rfl, rfl⟩ := he
      obtain ⟨u, r', h1, h2⟩ := fin _ hx
      cases h2 with
      | ag us m r' hm => rw [hm.flat_rows hfl] at hm; exact ⟨_, h1, .ag us m [] hm⟩
     ·cases he
    ·cases he
   ·cases he
  ·cases he
 ·rename_i c ho
  split at he
  ·rename_i x t hcal hargs htys
   have hx := h.opd_ok x
   have hargs' : c.args = #[x] := by rw [<- Array.toArray_toList (xs := c.args), hargs]
   have htys' : c.argTypes = #[t] := by rw [<- Array.toArray_toList (xs := c.argTypes), htys]
   unfold alen at he
   split at he
   ·rename_i e helT
    unfold elT at helT
    split at helT
    ·rename_i e' hu
     split at he
     ·rename_i els hsl
      simp only [Option.some.injEq, Prod.mk.injEq] at he
      obtain ⟨rfl, rfl⟩ := he
      obtain ⟨A, cp, hv⟩ := h.slice_of hx hsl
      refine ⟨_, fun w' _ => ?_, .one _ _ _ (.int _ _)⟩
      simp [execOp, ho, resolve, hcal, hargs', htys', invoke, builtin, Builtin.len_, run_underlying hu, hv, goInt]
     ·cases he
    ·cases helT
   ·split at he
    ·rename_i hstr
     unfold strT at hstr
     split at hstr
     ·rename_i hu
      split at he
      ·rename_i s hopd
       simp only [Option.some.injEq, Prod.mk.injEq] at he
       obtain ⟨rfl, rfl⟩ := he
       rw [hopd] at hx
       have ex := (CzS.one_inv hx).str_inv
       refine ⟨_, fun w' _ => ?_, .one _ _ _ (.int _ _)⟩
       simp [execOp, ho, resolve, hcal, hargs', htys', invoke, builtin, Builtin.len_, run_underlying hu, ex, goInt]
      ·cases he
     ·cases hstr
    ·cases he
  ·cases he
 ·cases he
end
end Go.Av
