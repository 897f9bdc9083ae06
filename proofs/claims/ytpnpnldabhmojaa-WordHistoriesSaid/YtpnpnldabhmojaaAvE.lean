/- Operations that only read, the second part: addresses of fields and elements, lengths, cuts. -/
import Derived.Test.YtpnpnldabhmojaaAvD
set_option linter.unusedVariables false
set_option linter.unusedSimpArgs false
namespace Go.Av
open Go Go.RowKit

def afield (P : Program) (env : Env) (t : TypeId) (x : Operand) (f : Nat) : Option (Prop × AV) :=
  match fldT P t f with
  | some (off, ft) => match sizeT P ft with
    | some (_ + 1) => match opd env x with
      | .sv (.one (.rf l)) => some (True, .sv (.one (.rf (l.drop off))))
      | .pt s p i j => some (True, .pt s p i (j + off))
      | _ => none
    | _ => none
  | none => none

/-- The elements of what is known to be a slice. -/
def sliceOf (env : Env) : AV → Option (List (List DV))
  | .sv (.one x) => x.elsOf
  | .al s p => match env.at s p with
    | some y => y.elsOf
    | none => none
  | .sub s p lo hi => match env.at s p with
    | some y => match y.elsOf with
      | some els => some ((els.drop lo).take (hi - lo))
      | none => none
    | none => none
  | _ => none

def aindex (P : Program) (env : Env) (t : TypeId) (x i : Operand) : Option (Prop × AV) :=
  match opd env i with
  | .sv (.one (.int _ n)) =>
    match elT P t with
    | some e => match sizeT P e with
      | some z => match opd env x with
        | .sv (.one (.sl els)) => match els[n.toNat]? with
          | some el => some (0 ≤ n ∧ el.length = z, .sv (.one (.rf el)))
          | none => none
        | .al s p => match env.at s p with
          | some (.ow _ els) => match els[n.toNat]? with
            | some el => some (0 ≤ n ∧ el.length = z, .pt s p n.toNat 0)
            | none => none
          | some (.sl els) => match els[n.toNat]? with
            | some el => some (0 ≤ n ∧ el.length = z, .sv (.one (.rf el)))
            | none => none
          | _ => none
        | .sub s p lo hi => match env.at s p with
          | some (.ow _ els) => match els[lo + n.toNat]? with
            | some el => some (0 ≤ n ∧ n.toNat < hi - lo ∧ el.length = z, .pt s p (lo + n.toNat) 0)
            | none => none
          | _ => none
        | _ => none
      | none => none
    | none => match arrT P t with
      | some (len, e) => match sizeT P e with
        | some z => match opd env x with
          | .pt s p i j => some (0 ≤ n ∧ n < len, .pt s p i (j + n.toNat * z))
          | .sv (.one (.rf l)) => some (0 ≤ n ∧ n < len, .sv (.one (.rf (l.drop (n.toNat * z)))))
          | _ => none
        | none => none
      | none => none
  | _ => none

section
variable {P : Program} {N B : Nat} {w0 : World} {S0 : Nat → Prop} {env : Env} {a : Act} {w : World} {rows : Nat → List Nat}

theorem Cz.rf_drop {w : World} {S : Nat → Prop} {v : Value} {l : List DV} {r : List Nat} (h : Cz w S v (.rf l) r) (k : Nat) : r = [] ∧ ∃ ad, v = .pointer (some ad) ∧ Cz w S (.pointer (some (ad.add k))) (.rf (l.drop k)) [] := by
  cases h with
  | rf ad l vs hS hcell hl =>
    refine ⟨rfl, ad, rfl, ?_⟩
    obtain ⟨r1, r2, e, _, h2⟩ := CzL.split k hl
    have e2 : r2 = [] := by
      have := congrArg List.length e
      simp at this
      exact List.eq_nil_of_length_eq_zero (by omega)
    subst e2
    refine .rf _ _ (vs.drop k) (by rw [block_of_add]; exact hS) ?_ h2
    intro j u hu
    rw [List.getElem?_drop] at hu
    rw [add_of_add]
    exact hcell _ _ hu

theorem run_fieldAt {t : TypeId} {f off : Nat} {ft : TypeId} {n : Nat} {ad : Addr} (h : fldT P t f = some (off, ft)) (hs : sizeT P ft = some (n + 1)) : (Instr.fieldAt t (.pointer (some ad)) f).run P w = .ok (.pointer (some (ad.add off))) w := by
  unfold fldT at h
  split at h
  · rename_i fs hu
    cases hf : fs[f]? with
    | none => simp [hf] at h
    | some fd =>
      simp [hf] at h
      obtain ⟨rfl, rfl⟩ := h
      simp [Instr.fieldAt, run_underlying hu, hf, Instr.sureAddr, fieldPlace, run_sizeOf hs]
  · cases h

theorem afield_ok (h : SimR N B w0 S0 env a w rows) {o : Oper} {t : TypeId} {x : Operand} {f : Nat} (ho : o.op = .fieldAddr t x f) {ob : Prop} {av : AV} (he : afield P env t x f = some (ob, av)) :
    ∃ v, Yields P o a w v ∧ AVR w (SS B S0 w rows) env (Act.f a) av v [] := by
  have hx := h.opd_ok x
  unfold afield at he
  split at he
  · rename_i off ft hfd
    split at he
    · rename_i n hs
      split at he
      · rename_i l hopd
        rw [hopd] at hx
        have hx := CzS.one_inv hx
        simp only [Option.some.injEq, Prod.mk.injEq] at he
        obtain ⟨rfl, rfl⟩ := he
        obtain ⟨_, ad, hv, hcz⟩ := hx.rf_drop off
        refine ⟨_, fun w' hw' => ?_, .one _ _ _ hcz⟩
        simp only [execOp, ho, hv]
        exact run_value (run_fieldAt hfd hs)
      · rename_i s p i j hopd
        rw [hopd] at hx
        simp only [Option.some.injEq, Prod.mk.injEq] at he
        obtain ⟨rfl, rfl⟩ := he
        obtain ⟨_, x', u, y, el, ad, h1, h2, h3, h4, h5⟩ := hx
        refine ⟨_, fun w' hw' => ?_, rfl, x', u, y, el, ad, h1, h2, h3, h4, rfl⟩
        simp only [execOp, ho, h5]
        rw [run_value (run_fieldAt hfd hs), add_of_add, Nat.add_assoc]
      · cases he
    · cases he
  · cases he

/-- A slice's value. -/
theorem Cz.slice_len {w : World} {S : Nat → Prop} {v : Value} {x : DV} {els : List (List DV)} {r : List Nat} (h : Cz w S v x r) (he : x.elsOf = some els) : ∃ A c, v = .slice A els.length c ∧ els.length ≤ c ∧ (els ≠ [] → ∃ ad, A = some ad) := by
  cases h with
  | nil => injection he with he; subst he; exact ⟨none, 0, rfl, by simp, by simp⟩
  | shNil A c => injection he with he; subst he; exact ⟨A, c, rfl, by simp, by simp⟩
  | owNil => injection he with he; subst he; exact ⟨none, 0, rfl, by simp, by simp⟩
  | sh ad n c z els vs hS hn hc hm hz hcell hl => injection he with he; subst he; subst hn; exact ⟨some ad, c, rfl, hc, fun _ => ⟨ad, rfl⟩⟩
  | ow b off n c z els T cs rs hb hn hc hm hsz hz hl => injection he with he; subst he; subst hn; exact ⟨_, c, rfl, hc, fun _ => ⟨_, rfl⟩⟩
  | _ => cases he

theorem SimR.slice_of (h : SimR N B w0 S0 env a w rows) {av : AV} {v : Value} (hv : AVR w (SS B S0 w rows) env (Act.f a) av v []) {els : List (List DV)} (he : sliceOf env av = some els) : ∃ A c, v = .slice A els.length c := by
  unfold sliceOf at he
  split at he
  · obtain ⟨A, c, h1, _⟩ := (CzS.one_inv hv).slice_len he
    exact ⟨A, c, h1⟩
  · obtain ⟨_, x, y, h1, h2⟩ := hv
    split at he
    · rename_i y' hat
      obtain ⟨rfl, r, h3, _⟩ := h.place h1 h2 hat
      obtain ⟨A, c, h4, _⟩ := h3.slice_len he
      exact ⟨A, c, h4⟩
    · cases he
  · rename_i s' p' lo' hi'
    obtain ⟨_, x, y, A, n, c, els', h1, h2, h3, h4, h5, h6, h7, z, h8, h9⟩ := hv
    split at he
    · rename_i y' hat
      obtain ⟨rfl, r, _, _⟩ := h.place h1 h2 hat
      rw [h3] at he
      injection he with he
      subst he
      refine ⟨(if c = lo' then A else A.map (·.add (lo' * z))), c - lo', ?_⟩
      rw [h9, List.length_take, List.length_drop, h4]
      congr 1; omega
    · cases he
  · cases he

theorem run_indexAt {t e : TypeId} {z : Nat} {ad : Addr} {n c : Nat} {k : IntKind} {i : Int} (h : elT P t = some e) (hs : sizeT P e = some z) (h0 : 0 ≤ i) (h1 : i.toNat < n) :
    (Instr.indexAt t (.slice (some ad) n c) (.int k i)).run P w = .ok (.pointer (some (ad.add (i.toNat * z)))) w := by
  unfold elT at h
  split at h
  · rename_i e' hu
    injection h with h
    subst h
    have hi : 0 ≤ i ∧ i < (n : Int) := by omega
    simp [Instr.indexAt, asIntOf, run_underlying hu, run_sizeOf hs, hi]
  · cases h

theorem run_indexAtArr {t e : TypeId} {z len : Nat} {ad : Addr} {k : IntKind} {i : Int} (h : arrT P t = some (len, e)) (hs : sizeT P e = some z) (h0 : 0 ≤ i) (h1 : i < len) :
    (Instr.indexAt t (.pointer (some ad)) (.int k i)).run P w = .ok (.pointer (some (ad.add (i.toNat * z)))) w := by
  unfold arrT at h
  split at h
  · rename_i n' e' hu
    injection h with h
    injection h with ha hb
    subst ha
    subst hb
    simp [Instr.indexAt, asIntOf, run_underlying hu, run_sizeOf hs, h0, h1, Instr.sureAddr]
  · cases h

/-- An element of a slice that is shared. -/
theorem Cz.sh_at {w : World} {S : Nat → Prop} {v : Value} {els : List (List DV)} {r : List Nat} (h : Cz w S v (.sl els) r) {i : Nat} {el : List DV} (hi : els[i]? = some el) :
    ∃ ad c, v = .slice (some ad) els.length c ∧ i < els.length ∧ Cz w S (.pointer (some (ad.add (i * el.length)))) (.rf el) [] := by
  have hlt : i < els.length := (List.getElem?_eq_some_iff.1 hi).1
  have he : els[i] = el := (List.getElem?_eq_some_iff.1 hi).2
  cases h with
  | shNil => simp at hlt
  | sh ad n c z els vs hS hn hc hm hz hcell hl =>
    subst hn
    have hel : el.length = z := hz el (by rw [← he]; exact List.getElem_mem hlt)
    refine ⟨ad, c, rfl, hlt, ?_⟩
    obtain ⟨r1, r2, e, _, h2⟩ := CzL.split (i * z) hl
    obtain ⟨r3, r4, e', h3, _⟩ := CzL.split z h2
    have e3 : r3 = [] := by
      have := congrArg List.length e
      have := congrArg List.length e'
      simp at *
      exact List.eq_nil_of_length_eq_zero (by omega)
    subst e3
    rw [flatten_at hz hi] at h3
    refine .rf _ _ _ (by rw [block_of_add]; exact hS) ?_ h3
    intro j u hu
    rw [List.getElem?_take] at hu
    split at hu
    · rw [List.getElem?_drop] at hu
      rw [add_of_add, hel]
      exact hcell _ _ hu
    · cases hu

theorem aindex_ok (h : SimR N B w0 S0 env a w rows) {o : Oper} {t : TypeId} {x i : Operand} (ho : o.op = .indexAddr t x i) {ob : Prop} {av : AV} (he : aindex P env t x i = some (ob, av)) (hob : ob) :
    ∃ v, Yields P o a w v ∧ AVR w (SS B S0 w rows) env (Act.f a) av v [] := by
  have hx := h.opd_ok x
  have hi := h.opd_ok i
  unfold aindex at he
  split at he
  · rename_i k n hopi
    rw [hopi] at hi
    have hi := CzS.one_inv hi
    generalize hvi : a.eval i = vi at *
    generalize hnil : ([] : List Nat) = rr at hi
    cases hi
    clear hnil
    split at he
    · rename_i e helT
      split at he
      · rename_i z hs
        split at he
        · rename_i els hopx
          rw [hopx] at hx
          have hx := CzS.one_inv hx
          split at he
          · rename_i el hel
            simp only [Option.some.injEq, Prod.mk.injEq] at he
            obtain ⟨rfl, rfl⟩ := he
            obtain ⟨h0, hz⟩ := hob
            obtain ⟨ad, c, hv, hlt, hcz⟩ := hx.sh_at hel
            rw [hz] at hcz
            refine ⟨_, fun w' hw' => ?_, .one _ _ _ hcz⟩
            simp only [execOp, ho, hv, hvi]
            exact run_value (run_indexAt helT hs h0 hlt)
          · cases he
        · rename_i s p hopx
          rw [hopx] at hx
          obtain ⟨_, x', y, h1, h2⟩ := hx
          split at he
          · rename_i zz els hat
            obtain ⟨rfl, r, hcz, _⟩ := h.place h1 h2 hat
            split at he
            · rename_i el hel
              simp only [Option.some.injEq, Prod.mk.injEq] at he
              obtain ⟨rfl, rfl⟩ := he
              obtain ⟨h0, hz⟩ := hob
              have hlt : n.toNat < els.length := (List.getElem?_eq_some_iff.1 hel).1
              obtain ⟨A, c, hv, _, hA⟩ := hcz.slice_len rfl
              obtain ⟨ad, rfl⟩ := hA (by intro e; rw [e] at hlt; simp at hlt)
              refine ⟨_, fun w' hw' => ?_, rfl, x', _, _, el, ad, h1, h2, hel, by rw [hv]; rfl, rfl⟩
              simp only [execOp, ho, hv, hvi]
              rw [run_value (run_indexAt helT hs h0 hlt), hz]; rfl
            · cases he
          · rename_i els hat
            obtain ⟨rfl, r, hcz, _⟩ := h.place h1 h2 hat
            split at he
            · rename_i el hel
              simp only [Option.some.injEq, Prod.mk.injEq] at he
              obtain ⟨rfl, rfl⟩ := he
              obtain ⟨h0, hz⟩ := hob
              obtain ⟨ad, c, hv, hlt, hcz⟩ := hcz.sh_at hel
              rw [hz] at hcz
              refine ⟨_, fun w' hw' => ?_, .one _ _ _ hcz⟩
              simp only [execOp, ho, hv, hvi]
              exact run_value (run_indexAt helT hs h0 hlt)
            · cases he
          · cases he
        · rename_i s p lo hi' hopx
          rw [hopx] at hx
          obtain ⟨_, x', y, A, n', c, els', h1, h2, h3, h4, h5, h6, h7, z', h8, h9⟩ := hx
          split at he
          · rename_i zz els hat
            obtain ⟨rfl, r, hcz, _⟩ := h.place h1 h2 hat
            injection h3 with h3
            subst h3
            split at he
            · rename_i el hel
              simp only [Option.some.injEq, Prod.mk.injEq] at he
              obtain ⟨rfl, rfl⟩ := he
              obtain ⟨h0, hlt, hz⟩ := hob
              have hlt' : lo + n.toNat < els.length := (List.getElem?_eq_some_iff.1 hel).1
              have hee : els[lo + n.toNat] = el := (List.getElem?_eq_some_iff.1 hel).2
              have hzz : z' = z := by rw [← h8 el (by rw [← hee]; exact List.getElem_mem hlt'), hz]
              subst hzz
              obtain ⟨A', c', hv, _, hA⟩ := hcz.slice_len rfl
              injection hv with hv1 hv2 hv3
              obtain ⟨ad, hA⟩ := hA (by intro e; rw [e] at hlt'; simp at hlt')
              subst hv1
              subst hA
              rw [if_neg (by omega)] at h9
              refine ⟨_, fun w' hw' => ?_, rfl, x', _, _, el, ad, h1, h2, hel, rfl, rfl⟩
              simp only [execOp, ho, h9, hvi, Option.map_some]
              rw [run_value (run_indexAt helT hs h0 hlt), add_of_add, hz, Nat.add_mul]; rfl
            · cases he
          · cases he
        · cases he
      · cases he
    · split at he
      · rename_i len e harr
        split at he
        · rename_i z hs
          split at he
          · rename_i s p i' j hopx
            rw [hopx] at hx
            simp only [Option.some.injEq, Prod.mk.injEq] at he
            obtain ⟨rfl, rfl⟩ := he
            obtain ⟨_, x', u, y, el, ad, h1, h2, h3, h4, h5⟩ := hx
            refine ⟨_, fun w' hw' => ?_, rfl, x', u, y, el, ad, h1, h2, h3, h4, rfl⟩
            simp only [execOp, ho, h5, hvi]
            rw [run_value (run_indexAtArr harr hs hob.1 hob.2), add_of_add, Nat.add_assoc]
          · rename_i l hopx
            rw [hopx] at hx
            have hx := CzS.one_inv hx
            simp only [Option.some.injEq, Prod.mk.injEq] at he
            obtain ⟨rfl, rfl⟩ := he
            obtain ⟨_, ad, hv, hcz⟩ := hx.rf_drop (n.toNat * z)
            refine ⟨_, fun w' hw' => ?_, .one _ _ _ hcz⟩
            simp only [execOp, ho, hv, hvi]
            exact run_value (run_indexAtArr harr hs hob.1 hob.2)
          · cases he
        · cases he
      · cases he
  · cases he
end

end Go.Av
