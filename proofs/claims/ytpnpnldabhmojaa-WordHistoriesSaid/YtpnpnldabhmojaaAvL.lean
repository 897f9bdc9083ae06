/- Cuts of slices, composite values; calls. -/
import Derived.Test.YtpnpnldabhmojaaAvK
set_option linter.unusedVariables false
set_option linter.unusedSimpArgs false
namespace Go.Av
open Go Go.RowKit

def bnd (env : Env) (dflt : Nat) : Option Operand → Option (Prop × Nat)
  | none => some (True, dflt)
  | some x => match opd env x with
    | .sv (.one (.int _ n)) => some (0 ≤ n, n.toNat)
    | _ => none

def aslice (P : Program) (env : Env) (t : TypeId) (x : Operand) (lo hi : Option Operand) : Option (Prop × AV) :=
  match elT P t with
  | some e => match sizeT P e with
    | some z => match sliceOf env (opd env x) with
      | some els => match bnd env 0 lo, bnd env els.length hi with
        | some (o1, l), some (o2, h) => match opd env x with
          | .al s p => match env.at s p with
            | some (.ow _ _) => some (o1 ∧ o2 ∧ l ≤ h ∧ h ≤ els.length ∧ (∀ e ∈ els, e.length = z), .sub s p l h)
            | some (.sl _) => some (o1 ∧ o2 ∧ l ≤ h ∧ h ≤ els.length ∧ (∀ e ∈ els, e.length = z), .sv (.one (.sl ((els.drop l).take (h - l)))))
            | _ => none
          | .sv (.one (.sl _)) => some (o1 ∧ o2 ∧ l ≤ h ∧ h ≤ els.length ∧ (∀ e ∈ els, e.length = z), .sv (.one (.sl ((els.drop l).take (h - l)))))
          | .sv (.one .nil) => some (o1 ∧ o2 ∧ l ≤ h ∧ h ≤ els.length, .sv (.one (.sl [])))
          | _ => none
        | _, _ => none
      | none => none
    | none => none
  | none => match arrT P t with
    | some (n, e) => match sizeT P e, opd env x, lo, hi with
      | some 1, .pt s p 0 0, none, none => match env.at s p with
        | some (.bx l) => some (l.length = n, .bsl s p n)
        | _ => none
      | _, _, _, _ => none
    | none => none

def placesT (P : Program) (t : TypeId) : Option (List (Nat × Nat)) :=
  match P.underlying t with
  | some (.struct fields) => fields.toList.mapM (fun f => (P.info? f.type).map fun i => (f.offset, i.size))
  | _ => none

def abuild (P : Program) (env : Env) (t : TypeId) (parts : Array (Nat × Operand)) : Option (Prop × AV) :=
  match zeroT P t, partsOf env parts.toList with
  | some zl, some dp => match placesT P t with
    | some pl => match afill (fun i => pl[i]?) zl dp with
      | some l => some (True, .sv (.ag l))
      | none => none
    | none => match arrT P t with
      | some (_, e) => match sizeT P e with
        | some s => match afill (fun i => some (i * s, s)) zl dp with
          | some l => some (True, .sv (.ag l))
          | none => none
        | none => none
      | none => none
  | _, _ => none

/-- A part of a struct that is held by value. -/
def afieldV (P : Program) (env : Env) (t : TypeId) (x : Operand) (f : Nat) : Option (Prop × AV) :=
  match fldT P t f, opd env x with
  | some (off, ft), .sv (.ag l) => match kindT P ft, sizeT P ft with
    | some true, some n => some (off + n ≤ l.length, .sv (.ag ((l.drop off).take n)))
    | some false, some _ => match l[off]? with
      | some d => some (True, .sv (.one d))
      | none => none
    | _, _ => none
  | _, _ => none

def apure2 (P : Program) (env : Env) (o : Op) : Option (Prop × AV) :=
  match o with
  | .slice t x lo hi none => aslice P env t x lo hi
  | .build t parts => abuild P env t parts
  | .field t x f => afieldV P env t x f
  | _ => none

section
variable {P : Program} {N B : Nat} {w0 : World} {S0 : Nat → Prop} {env : Env} {a : Act} {w : World} {rows : Nat → List Nat} {next : Act → World → Prop} {Q : Exit → Act → World → Prop}

theorem bnd_ok (h : SimR N B w0 S0 env a w rows) {d : Nat} {x : Option Operand} {ob : Prop} {n : Nat} (he : bnd env d x = some (ob, n)) (hob : ob) :
    (x = none ∧ n = d) ∨ ∃ y k, x = some y ∧ a.eval y = .int k (n : Int) := by
  unfold bnd at he
  split at he
  · simp only [Option.some.injEq, Prod.mk.injEq] at he
    exact .inl ⟨rfl, he.2.symm⟩
  · rename_i y
    have hy := h.opd_ok y
    split at he
    · rename_i k m hopd
      rw [hopd] at hy
      simp only [Option.some.injEq, Prod.mk.injEq] at he
      obtain ⟨rfl, rfl⟩ := he
      refine .inr ⟨y, k, rfl, ?_⟩
      rw [(CzS.one_inv hy).int_inv, Int.toNat_of_nonneg hob]
    · cases he

theorem run_sliceAt {t e : TypeId} {z : Nat} {A : Option Addr} {n c l u : Nat} {lo hi : Option Value} (h : elT P t = some e) (hs : sizeT P e = some z) (hlo : (lo = none ∧ l = 0) ∨ ∃ k, lo = some (.int k (l : Int))) (hhi : (hi = none ∧ u = n) ∨ ∃ k, hi = some (.int k (u : Int))) (h1 : l ≤ u) (h2 : u ≤ c) :
    (Instr.sliceAt t (.slice A n c) lo hi none).run P w = .ok (.slice (if c = l then A else A.map (·.add (l * z))) (u - l) (c - l)) w := by
  unfold elT at h
  split at h
  · rename_i e' hu
    injection h with h
    subst h
    have b1 : ∀ (k : IntKind) (m y : Nat) (code : BoundsCode), m ≤ y → (Instr.sliceBound (.int k (m : Int)) y code).run P w = .ok m w := by
      intro k m y code hm
      have : (0 : Int) ≤ (m : Int) ∧ (m : Int) ≤ (y : Int) := by omega
      simp [Instr.sliceBound, asIntOf, this]
    rcases hlo with ⟨rfl, rfl⟩ | ⟨kl, rfl⟩
    · rcases hhi with ⟨rfl, rfl⟩ | ⟨kh, rfl⟩
      · simp [Instr.sliceAt, Instr.slice, Instr.sliceBounds, run_underlying hu, run_sizeOf hs]
      · simp [Instr.sliceAt, Instr.slice, Instr.sliceBounds, run_underlying hu, run_sizeOf hs, b1 kh u c _ h2]
    · rcases hhi with ⟨rfl, rfl⟩ | ⟨kh, rfl⟩
      · simp [Instr.sliceAt, Instr.slice, Instr.sliceBounds, run_underlying hu, run_sizeOf hs, b1 kl l u _ h1]
      · simp [Instr.sliceAt, Instr.slice, Instr.sliceBounds, run_underlying hu, run_sizeOf hs, b1 kl l u _ h1, b1 kh u c _ h2]
  · cases h

theorem run_sliceAtArr {t e : TypeId} {z n : Nat} {ad : Addr} (h : arrT P t = some (n, e)) (hs : sizeT P e = some z) :
    (Instr.sliceAt t (.pointer (some ad)) none none none).run P w = .ok (.slice (some ad) n n) w := by
  unfold arrT at h
  split at h
  · rename_i n' e' hu
    injection h with h
    injection h with ha hb
    subst ha
    subst hb
    simp [Instr.sliceAt, Instr.sliceBounds, run_underlying hu, run_sizeOf hs, Instr.sureAddr, add_zero]
  · cases h

/-- A cut of a shared slice. -/
theorem Cz.sh_cut {S : Nat → Prop} {v : Value} {els : List (List DV)} {r : List Nat} (h : Cz w S v (.sl els) r) {l u z : Nat} (h1 : l ≤ u) (h2 : u ≤ els.length) (hz : ∀ e ∈ els, e.length = z) :
    ∃ A c, v = .slice A els.length c ∧ els.length ≤ c ∧ Cz w S (.slice (if c = l then A else A.map (·.add (l * z))) (u - l) (c - l)) (.sl ((els.drop l).take (u - l))) [] := by
  by_cases hul : u - l = 0
  · obtain ⟨A, c, hv, hc, _⟩ := h.slice_len rfl
    refine ⟨A, c, hv, hc, ?_⟩
    rw [hul, List.take_zero]
    exact .shNil _ _
  · cases h with
    | shNil => simp at h2; omega
    | sh ad n c z0 els vs hS hn hc hm hz0 hcell hl =>
      subst hn
      refine ⟨some ad, c, rfl, hc, ?_⟩
      rw [if_neg (by omega)]
      have hcz := hl.nil_split (l * z) ((u - l) * z)
      rw [flatten_drop l hz, flatten_take (u - l) (fun e he => hz e (List.mem_of_mem_drop he))] at hcz
      refine .sh _ _ _ z _ _ (by rw [block_of_add]; exact hS) (by rw [List.length_take, List.length_drop]; omega) (by omega) (by omega) (fun e he => hz e (List.mem_of_mem_drop (List.mem_of_mem_take he))) ?_ hcz
      intro j u' hu'
      rw [List.getElem?_take] at hu'
      split at hu'
      · rw [List.getElem?_drop] at hu'
        rw [add_of_add]
        exact hcell _ _ hu'
      · cases hu'

theorem aslice_ok (h : SimR N B w0 S0 env a w rows) {o : Oper} {t : TypeId} {x : Operand} {lo hi : Option Operand} (ho : o.op = .slice t x lo hi none) {ob : Prop} {av : AV} (he : aslice P env t x lo hi = some (ob, av)) (hob : ob) :
    ∃ v, Yields P o a w v ∧ AVR w (SS B S0 w rows) env (Act.f a) av v [] := by
  have hx := h.opd_ok x
  unfold aslice at he
  split at he
  · rename_i e helT
    split at he
    · rename_i z hs
      split at he
      · rename_i els hsl
        split at he
        · rename_i o1 l o2 u hb1 hb2
          have hY : ∀ A n c, a.eval x = .slice A n c → o1 → o2 → n = els.length → l ≤ u → u ≤ n → n ≤ c → Yields P o a w (.slice (if c = l then A else A.map (·.add (l * z))) (u - l) (c - l)) := by
            intro A n c hv p1 p2 hn h1 h2 h3 w' hw'
            have e1 : (lo.map a.eval = none ∧ l = 0) ∨ ∃ k, lo.map a.eval = some (.int k (l : Int)) := by
              rcases bnd_ok h hb1 p1 with ⟨rfl, rfl⟩ | ⟨y, k, rfl, hy⟩
              · exact .inl ⟨rfl, rfl⟩
              · exact .inr ⟨k, by simp [hy]⟩
            have e2 : (hi.map a.eval = none ∧ u = n) ∨ ∃ k, hi.map a.eval = some (.int k (u : Int)) := by
              rcases bnd_ok h hb2 p2 with ⟨rfl, rfl⟩ | ⟨y, k, rfl, hy⟩
              · exact .inl ⟨rfl, hn.symm⟩
              · exact .inr ⟨k, by simp [hy]⟩
            simp only [execOp, ho, hv]
            exact run_value (run_sliceAt helT hs e1 e2 h1 (by omega))
          split at he
          · rename_i s p hopd
            rw [hopd] at hx hsl
            obtain ⟨_, x0, y0, hroot, hcat⟩ := hx
            split at he
            · rename_i z' els' hat
              simp only [Option.some.injEq, Prod.mk.injEq] at he
              obtain ⟨rfl, rfl⟩ := he
              obtain ⟨p1, p2, h1, h2, hz⟩ := hob
              obtain ⟨rfl, r, hcz, _⟩ := h.place hroot hcat hat
              simp only [sliceOf, hat, DV.elsOf, Option.some.injEq] at hsl
              subst hsl
              obtain ⟨A, c, hv, hc, _⟩ := hcz.slice_len rfl
              refine ⟨_, hY A _ c hv p1 p2 rfl h1 h2 hc, rfl, x0, _, A, _, c, els', hroot, by rw [hcat, hv], rfl, rfl, h1, h2, hc, z, hz, rfl⟩
            · rename_i els' hat
              simp only [Option.some.injEq, Prod.mk.injEq] at he
              obtain ⟨rfl, rfl⟩ := he
              obtain ⟨p1, p2, h1, h2, hz⟩ := hob
              obtain ⟨rfl, r, hcz, _⟩ := h.place hroot hcat hat
              simp only [sliceOf, hat, DV.elsOf, Option.some.injEq] at hsl
              subst hsl
              obtain ⟨A, c, hv, hc, hcut⟩ := hcz.sh_cut h1 h2 hz
              exact ⟨_, hY A _ c hv p1 p2 rfl h1 h2 hc, .one _ _ _ hcut⟩
            · cases he
          · rename_i els' hopd
            rw [hopd] at hx hsl
            simp only [sliceOf, DV.elsOf, Option.some.injEq] at hsl
            subst hsl
            simp only [Option.some.injEq, Prod.mk.injEq] at he
            obtain ⟨rfl, rfl⟩ := he
            obtain ⟨p1, p2, h1, h2, hz⟩ := hob
            obtain ⟨A, c, hv, hc, hcut⟩ := (CzS.one_inv hx).sh_cut h1 h2 hz
            exact ⟨_, hY A _ c hv p1 p2 rfl h1 h2 hc, .one _ _ _ hcut⟩
          · rename_i hopd
            rw [hopd] at hx hsl
            simp only [sliceOf, DV.elsOf, Option.some.injEq] at hsl
            subst hsl
            simp only [Option.some.injEq, Prod.mk.injEq] at he
            obtain ⟨rfl, rfl⟩ := he
            obtain ⟨p1, p2, h1, h2⟩ := hob
            obtain ⟨A, c, hv, hc, _⟩ := (CzS.one_inv hx).slice_len rfl
            refine ⟨_, hY A _ c hv p1 p2 rfl h1 h2 hc, .one _ _ _ ?_⟩
            have : u - l = 0 := by simp at h2; omega
            rw [this]
            exact .shNil _ _
          · cases he
        · cases he
      · cases he
    · cases he
  · split at he
    · rename_i n e harr
      split at he
      · rename_i s p hs hopd
        rw [hopd] at hx
        obtain ⟨_, x0, u, y0, el, ad, hroot, hcat, hel, had, hv⟩ := hx
        split at he
        · rename_i l hat
          simp only [Option.some.injEq, Prod.mk.injEq] at he
          obtain ⟨rfl, rfl⟩ := he
          obtain ⟨rfl, r, hcz, _⟩ := h.place hroot hcat hat
          simp only [DV.elAt, if_true, Option.some.injEq] at hel
          subst hel
          rw [Nat.zero_mul, Nat.add_zero, add_zero] at hv
          refine ⟨.slice (some ad) n n, fun w' _ => ?_, rfl, x0, u, _, l, ad, hroot, hcat, rfl, had, hob, rfl⟩
          simp only [execOp, ho, hv, Option.map_none]
          exact run_value (run_sliceAtArr harr hs)
        · cases he
      · cases he
    · cases he

theorem abuild_ok (h : SimR N B w0 S0 env a w rows) {o : Oper} {t : TypeId} {parts : Array (Nat × Operand)} (ho : o.op = .build t parts) {ob : Prop} {av : AV} (he : abuild P env t parts = some (ob, av)) :
    ∃ v, Yields P o a w v ∧ AVR w (SS B S0 w rows) env (Act.f a) av v [] := by
  unfold abuild at he
  split at he
  · rename_i zl dp hz hdp
    have hpr := h.parts_ok parts.toList dp hdp
    unfold zeroT at hz
    split at hz
    · rename_i i hi
      split at hz
      · rename_i zv hzv
        split at hz
        · have hcz := zerosDV_ok (w := w) (S := SS B S0 w rows) hz
          have fin : ∀ place l, afill place zl dp = some l → (∀ cells, Instr.fill place zv.cells (parts.toList.map fun x => (x.1, a.eval x.2)) = some cells → P.built t ((parts.map fun x => (x.1, a.eval x.2)).toList) = some cells) →
              ∃ v, Yields P o a w v ∧ AVR w (SS B S0 w rows) env (Act.f a) (.sv (.ag l)) v [] := by
            intro place l hl hb
            obtain ⟨cells', g1, g2⟩ := fill_ok place _ dp zv.cells zl l hcz hpr hl
            refine ⟨.agg cells', fun w' _ => ?_, .ag _ _ _ g2⟩
            simp only [execOp, ho]
            exact run_value (run_build w' t _ cells' (hb cells' g1))
          split at he
          · rename_i pl hpl
            unfold placesT at hpl
            split at hpl
            · rename_i fields hu
              split at he
              · rename_i l hl
                simp only [Option.some.injEq, Prod.mk.injEq] at he
                obtain ⟨rfl, rfl⟩ := he
                refine fin _ l hl (fun cells hc => ?_)
                have hf : (fun x : Nat => pl.toArray[x]?) = (fun i : Nat => pl[i]?) := by funext x; simp
                simp only [Program.built, hi, hu, hzv, hpl, Array.toList_map]
                rw [hf]
                exact hc
              · cases he
            · cases hpl
          · split at he
            · rename_i n e harr
              unfold arrT at harr
              split at harr
              · rename_i n' e' hu
                injection harr with harr
                injection harr with ha hb
                subst ha
                subst hb
                split at he
                · rename_i s hs
                  split at he
                  · rename_i l hl
                    simp only [Option.some.injEq, Prod.mk.injEq] at he
                    obtain ⟨rfl, rfl⟩ := he
                    refine fin _ l hl (fun cells hc => ?_)
                    cases hie : P.info? e' with
                    | none => simp [sizeT, hie] at hs
                    | some ie =>
                      have hsz : ie.size = s := by simpa [sizeT, hie] using hs
                      simp only [Program.built, hi, hu, hzv, hie, Array.toList_map, hsz]
                      exact hc
                  · cases he
                · cases he
              · cases harr
            · cases he
        · cases hz
      · cases hz
    · cases hz
  · cases he

theorem afieldV_ok (h : SimR N B w0 S0 env a w rows) {o : Oper} {t : TypeId} {x : Operand} {f : Nat} (ho : o.op = .field t x f) {ob : Prop} {av : AV} (he : afieldV P env t x f = some (ob, av)) (hob : ob) :
    ∃ v, Yields P o a w v ∧ AVR w (SS B S0 w rows) env (Act.f a) av v [] := by
  have hx := h.opd_ok x
  unfold afieldV at he
  split at he
  · rename_i off ft l hfd hopd
    rw [hopd] at hx
    generalize hv : a.eval x = vx at *
    generalize hr : ([] : List Nat) = r at hx
    cases hx with
    | ag vs l r hl =>
      subst hr
      unfold fldT at hfd
      split at hfd
      · rename_i fs hu
        cases hf : fs[f]? with
        | none => simp [hf] at hfd
        | some fd =>
          simp [hf] at hfd
          obtain ⟨rfl, rfl⟩ := hfd
          split at he
          · rename_i n hk hs
            simp only [Option.some.injEq, Prod.mk.injEq] at he
            obtain ⟨rfl, rfl⟩ := he
            refine ⟨.agg (vs.extract fd.offset (fd.offset + n)), fun w' _ => ?_, .ag _ _ _ ?_⟩
            · simp only [execOp, ho, hv]
              refine run_value ?_
              simp [Instr.field, run_underlying hu, hf, asAgg, part, run_isAgg hk, run_sizeOf hs]
            · have := hl.nil_split fd.offset n
              rw [Array.toList_extract, List.extract_eq_take_drop]
              simpa using this
          · rename_i n hk hs
            split at he
            · rename_i d hd
              simp only [Option.some.injEq, Prod.mk.injEq] at he
              obtain ⟨rfl, rfl⟩ := he
              obtain ⟨c, r, hc, hcz, hr⟩ := hl.get hd
              have e0 : r = [] := List.eq_nil_iff_forall_not_mem.2 fun b hb => by simpa using hr b hb
              subst e0
              have hc' : vs[fd.offset]? = some c := by simpa using hc
              refine ⟨c, fun w' _ => ?_, .one _ _ _ hcz⟩
              simp only [execOp, ho, hv]
              refine run_value ?_
              simp [Instr.field, run_underlying hu, hf, asAgg, part, run_isAgg hk, hc']
            · cases he
          · cases he
      · cases hfd
  · cases he

theorem apure2_ok (h : SimR N B w0 S0 env a w rows) {o : Oper} {ob : Prop} {av : AV} (he : apure2 P env o.op = some (ob, av)) (hob : ob) :
    ∃ v, Yields P o a w v ∧ AVR w (SS B S0 w rows) env (Act.f a) av v [] := by
  unfold apure2 at he
  split at he
  · rename_i t x lo hi ho
    exact aslice_ok h ho he hob
  · rename_i t parts ho
    exact abuild_ok h ho he
  · rename_i t x f ho
    exact afieldV_ok h ho he hob
  · cases he
end

end Go.Av
