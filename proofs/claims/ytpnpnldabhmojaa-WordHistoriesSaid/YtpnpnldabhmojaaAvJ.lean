/- append; a variable that takes over what a temporary owns; a store. -/
import Derived.Test.YtpnpnldabhmojaaAvI
set_option linter.unusedVariables false
set_option linter.unusedSimpArgs false
namespace Go.Av
open Go Go.RowKit

def flatEls (els : List (List DV)) : Prop := ∀ e ∈ els, e.all DV.flat = true

theorem flatEls.flatten {els : List (List DV)} (h : flatEls els) : els.flatten.all DV.flat = true := by
  rw [List.all_eq_true]
  intro x hx
  obtain ⟨e, he, hxe⟩ := List.mem_flatten.1 hx
  exact List.all_eq_true.1 (h e he) x hxe

theorem CzL.nil_split {w : World} {S : Nat → Prop} {vs : List Value} {xs : List DV} (h : CzL w S vs xs []) (k m : Nat) : CzL w S ((vs.drop k).take m) ((xs.drop k).take m) [] := by
  obtain ⟨r1, r2, e, _, h2⟩ := CzL.split k h
  obtain ⟨r3, r4, e', h3, _⟩ := CzL.split m h2
  have := congrArg List.length e
  have := congrArg List.length e'
  simp at *
  have e3 : r3 = [] := List.eq_nil_of_length_eq_zero (by omega)
  rw [e3] at h3
  exact h3

theorem splice_seg {α : Type} (l : List α) (off A : Nat) (news : List α) (h : off + A + news.length ≤ l.length) : ((splice l (off + A) news).drop off).take (A + news.length) = (l.drop off).take A ++ news := by
  have e : splice l (off + A) news = l.take off ++ (((l.drop off).take A ++ news) ++ l.drop (off + A + news.length)) := by
    unfold splice
    rw [List.take_add]
    simp [List.append_assoc]
  have h1 : (l.take off).length = off := by rw [List.length_take]; omega
  have h2 : ((l.drop off).take A ++ news).length = A + news.length := by rw [List.length_append, List.length_take, List.length_drop]; omega
  have e3 : (l.take off ++ (((l.drop off).take A ++ news) ++ l.drop (off + A + news.length))).drop off = ((l.drop off).take A ++ news) ++ l.drop (off + A + news.length) := List.drop_left' h1
  rw [e, e3]
  exact List.take_left' h2

/-- The cells of a slice whose elements own nothing. -/
theorem Cz.source {w : World} {S : Nat → Prop} {v : Value} {x : DV} {r : List Nat} (h : Cz w S v x r) {els : List (List DV)} (he : x.elsOf = some els) (hf : flatEls els) {z : Nat} (hz : ∀ e ∈ els, e.length = z) :
    ∃ A c nvs, v = .slice A els.length c ∧ els.length ≤ c ∧ nvs.length = els.length * z ∧ (∀ j u, nvs[j]? = some u → ∃ ad, A = some ad ∧ w.cell? (ad.add j) = some u) ∧ CzL w S nvs els.flatten [] ∧ (els ≠ [] → ∃ ad, A = some ad) := by
  cases h with
  | nil => injection he with he; subst he; exact ⟨none, 0, [], rfl, by simp, by simp, by simp, .nil, by simp⟩
  | shNil A c => injection he with he; subst he; exact ⟨A, c, [], rfl, by simp, by simp, by simp, .nil, by simp⟩
  | owNil => injection he with he; subst he; exact ⟨none, 0, [], rfl, by simp, by simp, by simp, .nil, by simp⟩
  | sh ad n c z0 els0 vs hS hn hc hm hz0 hcell hl =>
    injection he with he
    subst he
    subst hn
    exact ⟨some ad, c, vs, rfl, hc, by rw [hl.length, flatten_len hz], fun j u hu => ⟨ad, rfl, hcell j u hu⟩, hl, fun _ => ⟨ad, rfl⟩⟩
  | ow b off n c z0 els0 T cs rs hb hn hc hm hsz hz0 hl =>
    injection he with he
    subst he
    subst hn
    have hr := hl.flat_rows hf.flatten
    subst hr
    refine ⟨_, c, _, rfl, hc, by rw [hl.length, flatten_len hz], fun j u hu => ⟨_, rfl, ?_⟩, hl, fun _ => ⟨_, rfl⟩⟩
    rw [add_mk, cell_of_row w b _ cs T (0, 0) hb]
    rw [List.getElem?_take] at hu
    split at hu
    · rw [List.getElem?_drop] at hu
      simpa using hu
    · cases hu
  | _ => cases he

section
variable {P : Program} {N B : Nat} {w0 : World} {S0 : Nat → Prop} {env : Env} {a : Act} {w : World} {rows : Nat → List Nat} {next : Act → World → Prop} {Q : Exit → Act → World → Prop}

theorem SimR.source (h : SimR N B w0 S0 env a w rows) {av : AV} {v : Value} (hv : AVR w (SS B S0 w rows) env (Act.f a) av v []) {els : List (List DV)} (he : sliceOf env av = some els) (hf : flatEls els) {z : Nat} (hz : ∀ e ∈ els, e.length = z) :
    ∃ A c nvs, v = .slice A els.length c ∧ els.length ≤ c ∧ nvs.length = els.length * z ∧ (∀ j u, nvs[j]? = some u → ∃ ad, A = some ad ∧ w.cell? (ad.add j) = some u) ∧ CzL w (SS B S0 w rows) nvs els.flatten [] ∧ (els ≠ [] → ∃ ad, A = some ad) := by
  unfold sliceOf at he
  split at he
  · exact (CzS.one_inv hv).source he hf hz
  · obtain ⟨_, x, y, h1, h2⟩ := hv
    split at he
    · rename_i y' hat
      obtain ⟨rfl, r, h3, _⟩ := h.place h1 h2 hat
      exact h3.source he hf hz
    · cases he
  · rename_i s' p' lo' hi'
    obtain ⟨_, x, y, A, n, c, els', h1, h2, h3, h4, h5, h6, h7, z', h8, h9⟩ := hv
    split at he
    · rename_i y' hat
      obtain ⟨rfl, r, hcz, _⟩ := h.place h1 h2 hat
      rw [h3] at he
      injection he with he
      by_cases hemp : els = []
      · rw [hemp] at he ⊢
        have hlen : hi' - lo' = 0 := by
          have := congrArg List.length he
          simp at this
          omega
        exact ⟨_, _, [], by rw [h9, hlen]; rfl, by simp, by simp, by simp, .nil, by simp⟩
      · -- the whole slice's cells, then the part
        have hels : els.length = hi' - lo' := by
          rw [← he, List.length_take, List.length_drop, h4]; omega
        have hpos : 0 < els.length := List.length_pos_iff.2 hemp
        have hzz : z' = z := by
          obtain ⟨e0, h0⟩ : ∃ e0, els[0]? = some e0 := ⟨_, List.getElem?_eq_getElem hpos⟩
          have hm0 := hz e0 (List.mem_of_getElem? h0)
          have h10 : els'[lo']? = some e0 := by
            rw [← he, List.getElem?_take, if_pos (by omega), List.getElem?_drop, Nat.add_zero] at h0
            exact h0
          have := h8 e0 (List.mem_of_getElem? h10)
          omega
        subst hzz
        have core : ∃ ad vs, A = some ad ∧ (∀ j u, vs[j]? = some u → w.cell? (ad.add j) = some u) ∧ (∃ r, CzL w (SS B S0 w rows) vs els'.flatten r) ∧ vs.length = els'.length * z' := by
          have hne : els' ≠ [] := by intro e; rw [e] at h4; simp at h4; omega
          generalize hu : Value.slice A n c = u at hcz
          cases hcz with
          | nil => injection h3 with h3; exact (hne h3.symm).elim
          | shNil => injection h3 with h3; exact (hne h3.symm).elim
          | owNil => injection h3 with h3; exact (hne h3.symm).elim
          | sh ad n0 c0 z0 els0 vs hS hn hc hm hz0 hcell hl =>
            injection h3 with h3
            subst h3
            injection hu with hu1 hu2 hu3
            exact ⟨ad, vs, hu1, hcell, ⟨[], hl⟩, by rw [hl.length, flatten_len h8]⟩
          | ow b off n0 c0 z0 els0 T cs rs hb hn hc hm hsz hz0 hl =>
            injection h3 with h3
            subst h3
            injection hu with hu1 hu2 hu3
            refine ⟨_, _, hu1, fun j u hu => ?_, ⟨rs, hl⟩, by rw [hl.length, flatten_len h8]⟩
            rw [add_mk, cell_of_row w b _ cs T (0, 0) hb]
            rw [List.getElem?_take] at hu
            split at hu
            · rw [List.getElem?_drop] at hu
              simpa using hu
            · cases hu
          | _ => cases h3
        obtain ⟨ad, vs, hA, hcells, ⟨r', hl⟩, hvl⟩ := core
        subst hA
        have hflat : els.flatten = (els'.flatten.drop (lo' * z')).take ((hi' - lo') * z') := by
          rw [flatten_drop lo' h8, flatten_take (hi' - lo') (fun e he => h8 e (List.mem_of_mem_drop he)), he]
        obtain ⟨r1, r2, e1, _, g2⟩ := CzL.split (lo' * z') hl
        obtain ⟨r3, r4, e2, g3, _⟩ := CzL.split ((hi' - lo') * z') g2
        rw [← hflat] at g3
        have hr3 := g3.flat_rows hf.flatten
        rw [hr3] at g3
        have hcl : c ≠ lo' := by omega
        rw [if_neg hcl] at h9
        refine ⟨some (ad.add (lo' * z')), c - lo', (vs.drop (lo' * z')).take ((hi' - lo') * z'), by rw [h9, hels]; rfl, by omega, ?_, ?_, g3, fun _ => ⟨_, rfl⟩⟩
        · rw [g3.length, flatten_len hz]
        · intro j u hu
          refine ⟨_, rfl, ?_⟩
          rw [List.getElem?_take] at hu
          split at hu
          · rw [List.getElem?_drop] at hu
            rw [add_of_add]
            exact hcells _ _ hu
          · cases hu
    · cases he
  · cases he

theorem run_append_roomO (t ty t' e : TypeId) (i : TypeInfo) (ht : P.underlying t = some (.slice e)) (ht' : elT P t' ≠ none) (hi : P.info? e = some i)
    (g off sLen sCap : Nat) (cur : Array Value) (T : TypeId) (hg : w.heap[g]? = some (.cells cur T (0, 0)))
    (A : Option Addr) (m c : Nat) (news : List Value) (hl : news.length = m * i.size) (hnews : ∀ j u, news[j]? = some u → ∃ ad, A = some ad ∧ w.cell? (ad.add j) = some u) (h1 : ∀ u ∈ news, u.oneCell' = true)
    (hroom : sLen + m ≤ sCap) (hfit : off + sLen * i.size + news.length ≤ cur.size) :
    (Builtin.append_ #[t, t'] ty #[.slice (some ⟨g, off, none⟩) sLen sCap, .slice A m c]).run P w =
      .ok (.slice (some ⟨g, off, none⟩) (sLen + m) sCap) (w.setRow g (splice cur.toList (off + sLen * i.size) news).toArray) := by
  have hst := run_storeCells_at P g (off + sLen * i.size) T news 0 cur w hg (by simpa using hfit) h1
  simp only [Nat.add_zero] at hst
  have hnz : ∀ d, P.underlying t' = some d → ∃ e', d = .slice e' := by
    intro d hd
    unfold elT at ht'
    rw [hd] at ht'
    cases d <;> simp at ht' <;> exact ⟨_, rfl⟩
  have hsome : ∃ e', P.underlying t' = some (.slice e') := by
    cases hu : P.underlying t' with
    | none => unfold elT at ht'; rw [hu] at ht'; exact (ht' rfl).elim
    | some d => obtain ⟨e', rfl⟩ := hnz d hu; exact ⟨e', rfl⟩
  obtain ⟨e', hu'⟩ := hsome
  have hf : (Builtin.firstCells i.size m (.slice A m c)).run P w = .ok news.toArray w := by
    cases A with
    | none =>
      have hn : news = [] := by
        cases news with
        | nil => rfl
        | cons u us => obtain ⟨ad, h, _⟩ := hnews 0 u rfl; cases h
      subst hn
      exact run_firstCells_none w i.size m m c
    | some ad => exact run_firstCells_some (P := P) w i.size m ad m c news hl (fun j u hu => by obtain ⟨ad', h, h2⟩ := hnews j u hu; injection h with h; subst h; exact h2)
  simp [Builtin.append_, run_underlying ht, run_underlying hu', sizeOf, typeInfo, hi, Builtin.lenOf, hroom, hf, add_mk, hst, splice]

theorem firstCells_any {size n c : Nat} {A : Option Addr} {cs : List Value} (hl : cs.length = n * size) (h : ∀ j u, cs[j]? = some u → ∃ ad, A = some ad ∧ w.cell? (ad.add j) = some u) : (Builtin.firstCells size n (.slice A n c)).run P w = .ok cs.toArray w := by
  cases A with
  | none =>
    have hn : cs = [] := by
      cases cs with
      | nil => rfl
      | cons u us => obtain ⟨ad, h, _⟩ := h 0 u rfl; cases h
    subst hn
    exact run_firstCells_none w size n n c
  | some ad => exact run_firstCells_some (P := P) w size n ad n c cs hl (fun j u hu => by obtain ⟨ad', h, h2⟩ := h j u hu; injection h with h; subst h; exact h2)

theorem run_append_growO (t ty t' e : TypeId) (i : TypeInfo) (z : Value) (ht : P.underlying t = some (.slice e)) (ht' : elT P t' ≠ none) (hi : P.info? e = some i) (hz : i.zero = some z)
    (base : Option Addr) (sLen sCap : Nat) (olds : List Value) (hlo : olds.length = sLen * i.size) (holds : ∀ j u, olds[j]? = some u → ∃ ad, base = some ad ∧ w.cell? (ad.add j) = some u)
    (A : Option Addr) (m c : Nat) (news : List Value) (hl : news.length = m * i.size) (hnews : ∀ j u, news[j]? = some u → ∃ ad, A = some ad ∧ w.cell? (ad.add j) = some u)
    (hg : sCap < sLen + m) (h63 : sLen + m ≤ 9223372036854775807) (hfit : Builtin.nextslicecap (sLen + m) sCap * i.bytes ≤ 281474976710656) :
    ∃ cap', sLen + m ≤ cap' ∧ cap' ≤ maxLen ∧ (Builtin.append_ #[t, t'] ty #[.slice base sLen sCap, .slice A m c]).run P w =
      .ok (.slice (some ⟨w.heap.size, 0, none⟩) (sLen + m) cap')
        (w.drew.alloc (.cells (olds.toArray ++ news.toArray ++ Builtin.zeroCells z.cells (cap' - (sLen + m))) e)) := by
  have hn : ¬ (sLen + m ≤ sCap) := by omega
  have h63' : ¬ (9223372036854775807 < ((sLen : Int) + (m : Int))) := by omega
  have h48' : ¬ (281474976710656 < Builtin.nextslicecap (sLen + m) sCap * i.bytes) := by omega
  have hf := firstCells_any (P := P) (w := w.drew) (c := c) hl (by simpa using hnews)
  have hfo := firstCells_any (P := P) (w := w.drew) (c := sCap) hlo (by simpa using holds)
  have hsome : ∃ e', P.underlying t' = some (.slice e') := by
    cases hu : P.underlying t' with
    | none => unfold elT at ht'; rw [hu] at ht'; exact (ht' rfl).elim
    | some d =>
      unfold elT at ht'
      rw [hu] at ht'
      cases d <;> simp at ht' <;> exact ⟨_, rfl⟩
  obtain ⟨e', hu'⟩ := hsome
  refine ⟨grownCap w (sLen + m) sCap e, grownCap_ge _ _ _ _, grownCap_le_maxLen _ _ _ _ (by unfold maxLen; omega), ?_⟩
  simp [Builtin.append_, run_underlying ht, run_underlying hu', sizeOf, typeInfo, zeroValue, hi, hz, Builtin.lenOf, hn, h63', h48', Question.forced, hf, hfo, newRow, grownCap]
  congr 2
  apply Array.ext'
  simp [List.append_assoc]

theorem run_append_none (t ty t' e : TypeId) (i : TypeInfo) (ht : P.underlying t = some (.slice e)) (ht' : elT P t' ≠ none) (hi : P.info? e = some i) (A : Option Addr) (c : Nat) :
    (Builtin.append_ #[t, t'] ty #[.slice none 0 0, .slice A 0 c]).run P w = .ok (.slice none 0 0) w := by
  have hf := firstCells_any (P := P) (w := w) (size := i.size) (n := 0) (c := c) (A := A) (cs := []) (by simp) (by simp)
  have hsome : ∃ e', P.underlying t' = some (.slice e') := by
    cases hu : P.underlying t' with
    | none => unfold elT at ht'; rw [hu] at ht'; exact (ht' rfl).elim
    | some d =>
      unfold elT at ht'
      rw [hu] at ht'
      cases d <;> simp at ht' <;> exact ⟨_, rfl⟩
  obtain ⟨e', hu'⟩ := hsome
  simp [Builtin.append_, run_underlying ht, run_underlying hu', sizeOf, typeInfo, hi, Builtin.lenOf, hf]

/-- A slot gives up what lies at a place. -/
def Env.give (env : Env) (s : Nat) (p : List (Nat × Nat)) : Env :=
  match env.root s with
  | some x => env.setRoot s (setP x p .dead) (if p.isEmpty then 0 else 1)
  | none => env

def appendOk (z bz : Nat) (els news : List (List DV)) : Prop :=
  flatEls news ∧ (∀ e ∈ news, e.length = z) ∧ 0 < z ∧ els.length + news.length ≤ maxLen ∧ (els.length + news.length) * bz ≤ 140737488355328

def aappend (P : Program) (env : Env) (o : Op) : Option (Prop × Env × DV) :=
  match o with
  | .call c => match c.callee, c.args.toList, c.argTypes.toList with
    | .builtin .append, [x, y], [t, t'] => match elT P t, elT P t' with
      | some e, some _ => match sizeT P e, bytesT P e, zeroT P e with
        | some z, some bz, some _ => match sliceOf env (opd env y) with
          | some news => match opd env x with
            | .sv (.one .nil) => some (appendOk z bz [] news, env, .ow z news)
            | .al s p => match env.at s p with
              | some (.ow z' els) => some (z' = z ∧ appendOk z bz els news, env.give s p, .ow z (els ++ news))
              | _ => none
            | _ => none
          | none => none
        | _, _, _ => none
      | _, _ => none
    | _, _, _ => none
  | _ => none

theorem new_row {S : Nat → Prop} {olds nvs : List Value} {oe ne : List (List DV)} {z : Nat} {rs : List Nat} (hz : ∀ e ∈ oe ++ ne, e.length = z) (ho : CzL w S olds oe.flatten rs) (hn : CzL w S nvs ne.flatten []) (e : TypeId) (pad : Array Value) (cap' : Nat) (hc : oe.length + ne.length ≤ cap') (hm : cap' ≤ maxLen)
    (hsz : olds.length + nvs.length + pad.size = cap' * z) (hk : ∀ b ∈ rs, b < w.heap.size) (hS : ∀ b, S b → b < w.heap.size) (S' : Nat → Prop) (hS' : ∀ b, S b → S' b) :
    Cz (w.drew.alloc (.cells (olds.toArray ++ nvs.toArray ++ pad) e)) S' (.slice (some ⟨w.heap.size, 0, none⟩) (oe.length + ne.length) cap') (.ow z (oe ++ ne)) (w.heap.size :: rs) := by
  have hflat := flatten_len hz
  have hlen := (ho.append hn).length
  rw [← List.flatten_append] at hlen
  rw [hflat] at hlen
  have hb : Below w.heap.size w (w.drew.alloc (.cells (olds.toArray ++ nvs.toArray ++ pad) e)) := ((Below.refl _ _).drew).alloc (Nat.le_refl _) _
  refine .ow _ 0 _ cap' z _ e _ rs (heap_alloc_new w.drew _) (by simp) hc hm (by simp; omega) hz ?_
  have h1 : ((olds.toArray ++ nvs.toArray ++ pad).toList.drop 0).take ((oe.length + ne.length) * z) = olds ++ nvs := by
    rw [List.drop_zero]
    simp only [Array.toList_append]
    rw [List.length_append] at hlen
    have : (oe.length + ne.length) * z = (olds ++ nvs).length := by rw [List.length_append, hlen, List.length_append]
    rw [this, List.take_left]
  rw [h1, List.flatten_append]
  have h2 := ho.append hn
  rw [List.append_nil] at h2
  exact h2.keep (fun b hs => ⟨hS' b hs, hb.block b (hS b hs)⟩) (fun b hr => hb.block b (hk b hr))

theorem aappend_ok (h : SimR N B w0 S0 env a w rows) {o : Oper} {ob : Prop} {env' : Env} {x : DV} (he : aappend P env o.op = some (ob, env', x)) (hob : ob) {d : Nat} (hd : d < N) (hdst : o.dst = some d)
    (hn : ∀ a' w', Sim N B w0 S0 (env'.put d (.sv (.one x))) a' w' → next a' w') : o.wp P a w next Q := by
  unfold aappend at he
  split at he
  · rename_i c hop
    split at he
    · rename_i X Y t t' hcal hargs htys
      have hargs' : c.args = #[X, Y] := by rw [← Array.toArray_toList (xs := c.args), hargs]
      have htys' : c.argTypes = #[t, t'] := by rw [← Array.toArray_toList (xs := c.argTypes), htys]
      split at he
      · rename_i e e2 helT helT'
        split at he
        · rename_i z bz zl hs hbz hzt
          split at he
          · rename_i news hsrc
            have hy := h.opd_ok Y
            have hx := h.opd_ok X
            have htn : elT P t' ≠ none := by rw [helT']; simp
            unfold elT at helT
            split at helT
            · rename_i e' hu
              injection helT with helT
              subst helT
              unfold zeroT at hzt
              split at hzt
              · rename_i i hi
                split at hzt
                · rename_i zv hzv
                  split at hzt
                  · rename_i hzs
                    have hsz : i.size = z := by simpa [sizeT, hi] using hs
                    have hby : i.bytes = bz := by simpa [bytesT, hi] using hbz
                    have hexec : ∀ v' w', (Builtin.append_ #[t, t'] o.type #[a.eval X, a.eval Y]).run P w = .ok v' w' → (execOp a.eval o).run P w = .ok (.value v') w' := by
                      intro v' w' hr
                      simp [execOp, hop, resolve, hcal, hargs', htys', invoke, builtin, hr]
                    have hpad : ∀ k, (Builtin.zeroCells zv.cells k).size = k * z := by intro k; rw [size_zeroCells, hzs, hsz]
                    split at he
                    · rename_i hopd
                      simp only [Option.some.injEq, Prod.mk.injEq] at he
                      obtain ⟨rfl, rfl, rfl⟩ := he
                      obtain ⟨hfl, hzl, hz0, hmax, hbytes⟩ := hob
                      rw [hopd] at hx
                      have hxv : a.eval X = .slice none 0 0 := by
                        have h1 := CzS.one_inv hx
                        generalize a.eval X = vx at h1 ⊢
                        generalize hr : ([] : List Nat) = r at h1
                        cases h1
                        rfl
                      obtain ⟨A, cp, nvs, hyv, _, hnl, hncell, hncz, _⟩ := h.source hy hsrc hfl hzl
                      by_cases hm : news = []
                      · subst hm
                        refine wp_value (hexec _ _ (by rw [hxv, hyv]; exact run_append_none t _ t' e' i hu htn hi A cp)) ?_
                        rw [hdst]
                        exact hn _ _ ⟨_, h.put hd (Below.refl _ _) (r := []) (by simp) (by simp) (.one _ _ _ (.owNil z))⟩
                      · have hpos : 0 < news.length := List.length_pos_iff.2 hm
                        simp only [List.length_nil, Nat.zero_add] at hmax hbytes
                        obtain ⟨cap', hc1, hc2, hrun⟩ := run_append_growO (P := P) (w := w) t o.type t' e' i zv hu htn hi hzv none 0 0 [] (by simp) (by simp) A news.length cp nvs (by rw [hnl, hsz]) hncell (by omega) (by unfold maxLen at hmax; omega) (growslice_fits (by omega) (by rw [Nat.zero_add, hby]; exact hbytes))
                        refine wp_value (hexec _ _ (by rw [hxv, hyv]; exact hrun)) ?_
                        rw [hdst]
                        have hb : Below w.heap.size w (w.drew.alloc (.cells (([] : List Value).toArray ++ nvs.toArray ++ Builtin.zeroCells zv.cells (cap' - (0 + news.length))) e')) := ((Below.refl _ _).drew).alloc (Nat.le_refl _) _
                        have hrow := new_row (w := w) (S := SS B S0 w rows) (olds := []) (oe := []) (rs := []) (z := z) (by simpa using hzl) .nil hncz e' (Builtin.zeroCells zv.cells (cap' - (0 + news.length))) cap' (by simpa using hc1) hc2 (by rw [hpad, hnl]; simp only [List.length_nil, Nat.zero_add]; rw [← Nat.add_mul]; congr 1; simp only [Nat.zero_add] at hc1; omega) (by simp) (fun b hs => hs.lt h.old h.base) (fun b => SS B S0 w rows b ∨ (w.heap.size ≤ b ∧ b < (w.drew.alloc (.cells (([] : List Value).toArray ++ nvs.toArray ++ Builtin.zeroCells zv.cells (cap' - (0 + news.length))) e')).heap.size ∧ b ∉ [w.heap.size])) (fun b hb => .inl hb)
                        exact hn _ _ ⟨_, h.put hd hb (r := [w.heap.size]) (by simp) (by simp) (.one _ _ _ (by simpa using hrow))⟩
                    · rename_i s p hopd
                      rw [hopd] at hx
                      obtain ⟨_, x0, y0, hroot, hcat⟩ := hx
                      split at he
                      · rename_i z' els hat
                        simp only [Option.some.injEq, Prod.mk.injEq] at he
                        obtain ⟨rfl, rfl, rfl⟩ := he
                        obtain ⟨rfl, hfl, hzl, hz0, hmax, hbytes⟩ := hob
                        obtain ⟨A, cp, nvs, hyv, _, hnl, hncell, hncz, _⟩ := h.source hy hsrc hfl hzl
                        obtain ⟨hyy, _⟩ := h.place hroot hcat hat
                        subst hyy
                        have hrcz := h.root_cz hroot
                        obtain ⟨ru, rest, hcu, hmem, hdis, hndu, hback⟩ := hrcz.lens p (h.nodup s) hcat
                        have hxv : a.eval X = a.eval X := rfl
                        generalize hu' : a.eval X = uv at *
                        -- what slot s keeps
                        have hgive : ∀ w' r', (∀ b, b < w.heap.size → b ∉ ru → w'.heap[b]? = w.heap[b]?) → Below B w w' → (∀ b ∈ r', (b ∈ ru ∨ w.heap.size ≤ b) ∧ b < w'.heap.size) → r'.Nodup → ∀ v', (∀ S' : Nat → Prop, (∀ b, SS B S0 w rows b → S' b) → Cz w' S' v' (.ow z' (els ++ news)) r') →
                            (Builtin.append_ #[t, t'] o.type #[uv, a.eval Y]).run P w = .ok v' w' → o.wp P a w next Q := by
                          intro w' r' hfr hbel hr1 hr2 v' hv' hrun
                          refine wp_value (hexec _ _ hrun) ?_
                          rw [hdst]
                          have hSk : ∀ S' : Nat → Prop, (∀ b, SS B S0 w rows b → S' b) → ∀ b, SS B S0 w rows b → S' b ∧ w'.heap[b]? = w.heap[b]? := by
                            intro S' hS' b hs
                            refine ⟨hS' b hs, hfr b (hs.lt h.old h.base) ?_⟩
                            intro hb
                            have hb' := (hmem b).2 (.inl hb)
                            rcases hs with hs | hs
                            · have := h.old b hs; have := h.own s b hb'; omega
                            · exact hs.2.2 s hb'
                          have hrest : ∀ b ∈ rest, w'.heap[b]? = w.heap[b]? := fun b hb => hfr b (h.own s b ((hmem b).2 (.inr hb))).2 (fun hb' => hdis b hb' hb)
                          have hone : uv.oneCell' = true := hcu.one
                          obtain ⟨rs', g1, g2, g3⟩ := hback w' (SS B S0 w rows) .dead [] (hSk _ (fun _ hb => hb)) hrest (.dead _ hone) (by simp) (by simp)
                          have hsh : ∀ n, n = (if p.isEmpty then 0 else 1) → n = 0 ∨ (n = 1 ∧ Shape x0 (setP x0 p .dead)) := by
                            intro n hn
                            cases p with
                            | nil => left; simpa using hn
                            | cons q p => right; exact ⟨by simpa using hn, Shape.setP (cat_getP _ hcat)⟩
                          have fin := h.consume hd (v := v') (y := .one (.ow z' (els ++ news))) hroot (n := if p.isEmpty then 0 else 1) (hsh _ rfl) hbel (rs' := rs') (r' := r')
                            (fun b hb => (hmem b).2 (.inr (by simpa using (g3 b).1 hb))) g2
                            (fun b hb => ⟨(hr1 b hb).1.imp (fun h => (hmem b).2 (.inl h)) id, (hr1 b hb).2⟩) hr2
                            (fun b hb hb' => by
                              have h1 : b ∈ rest := by simpa using (g3 b).1 hb'
                              rcases (hr1 b hb).1 with h2 | h2
                              · exact hdis b h2 h1
                              · have := h.own s b ((hmem b).2 (.inr h1)); omega)
                            (fun b hb hnb => hfr b hb (fun hb' => hnb ((hmem b).2 (.inl hb'))))
                            (fun S' hS' => by
                              obtain ⟨rs2, k1, k2, k3⟩ := hback w' S' .dead [] (hSk S' hS') hrest (.dead _ hone) (by simp) (by simp)
                              exact g1.keep (S' := S') (fun b hb => ⟨hS' b hb, rfl⟩) (fun _ _ => rfl))
                            (fun S' hS' => .one _ _ _ (hv' S' hS'))
                          have henv : env.give s p = env.setRoot s (setP x0 p .dead) (if p.isEmpty then 0 else 1) := by simp [Env.give, hroot]
                          rw [← henv] at fin
                          exact hn _ _ ⟨_, fin⟩
                        have hBb : ∀ (o : Obj), Below B w (w.drew.alloc o) := fun o => ((Below.refl _ _).drew).alloc h.base _
                        cases hcu with
                        | owNil =>
                          by_cases hm : news = []
                          · subst hm
                            refine hgive w [] (fun _ _ _ => rfl) (Below.refl _ _) (by simp) (by simp) _ (fun S' _ => by simpa using Cz.owNil z') (by rw [hyv]; exact run_append_none t _ t' e' i hu htn hi A cp)
                          · have hpos : 0 < news.length := List.length_pos_iff.2 hm
                            simp only [List.length_nil, Nat.zero_add] at hmax hbytes
                            obtain ⟨cap', hc1, hc2, hrun⟩ := run_append_growO (P := P) (w := w) t o.type t' e' i zv hu htn hi hzv none 0 0 [] (by simp) (by simp) A news.length cp nvs (by rw [hnl, hsz]) hncell (by omega) (by unfold maxLen at hmax; omega) (growslice_fits (by omega) (by rw [Nat.zero_add, hby]; exact hbytes))
                            refine hgive _ [w.heap.size] (fun b hb _ => Below.heap_alloc w.drew _ b hb) (hBb _) (by simp) (by simp) _ (fun S' hS' => ?_) (by rw [hyv]; exact hrun)
                            have hrow := new_row (w := w) (S := SS B S0 w rows) (olds := []) (oe := []) (rs := []) (z := z') (by simpa using hzl) .nil hncz e' (Builtin.zeroCells zv.cells (cap' - (0 + news.length))) cap' (by simpa using hc1) hc2 (by rw [hpad, hnl]; simp only [List.length_nil, Nat.zero_add]; rw [← Nat.add_mul]; congr 1; simp only [Nat.zero_add] at hc1; omega) (by simp) (fun b hs => hs.lt h.old h.base) S' hS'
                            simpa using hrow
                        | ow b off n c z0 els0 T cs rs hb hne hc hm hszz hz0' hl =>
                          subst hne
                          have hlold := hl.length
                          rw [flatten_len hz0'] at hlold
                          have hallz : ∀ e ∈ els ++ news, e.length = z' := by
                            intro e he
                            rcases List.mem_append.1 he with he | he
                            · exact hz0' e he
                            · exact hzl e he
                          have hblt : b < w.heap.size := (Array.getElem?_eq_some_iff.1 hb).1
                          have hcellold : ∀ j u, ((cs.toList.drop off).take (els.length * z'))[j]? = some u → ∃ ad, (some (⟨b, off, none⟩ : Addr)) = some ad ∧ w.cell? (ad.add j) = some u := by
                            intro j u hju
                            refine ⟨_, rfl, ?_⟩
                            rw [add_mk, cell_of_row w b _ cs T (0, 0) hb]
                            rw [List.getElem?_take] at hju
                            split at hju
                            · rw [List.getElem?_drop] at hju
                              simpa using hju
                            · cases hju
                          by_cases hroom : els.length + news.length ≤ c
                          · have hfit : off + els.length * i.size + nvs.length ≤ cs.size := by
                              have : (els.length + news.length) * z' ≤ c * z' := Nat.mul_le_mul_right _ hroom
                              rw [Nat.add_mul] at this
                              rw [hsz, hnl]; omega
                            have hrun := run_append_roomO (P := P) (w := w) t o.type t' e' i hu htn hi b off els.length c cs T hb A news.length cp nvs (by rw [hnl, hsz]) hncell hncz.allOne hroom hfit
                            rw [hsz] at hrun hfit
                            refine hgive _ (b :: rs) ?_ ?_ ?_ hndu _ (fun S' hS' => ?_) (by rw [hyv]; exact hrun)
                            · intro b' _ hb'
                              exact setRow_other w b b' _ (by intro e; exact hb' (by simp [e]))
                            · have hB : B ≤ b := (h.own s b ((hmem b).2 (.inl (by simp)))).1
                              exact ⟨rfl, rfl, rfl, by simp, fun k hk => setRow_other w b k _ (by omega)⟩
                            · intro b' hb'
                              refine ⟨.inl hb', ?_⟩
                              rw [setRow_size]
                              exact (h.own s b' ((hmem b').2 (.inl hb'))).2
                            · have hlen2 : (els ++ news).length = els.length + news.length := by simp
                              have hspl : (splice cs.toList (off + els.length * z') nvs).length = cs.toList.length := splice_length _ _ _ (by simpa using hfit)
                              refine .ow b off _ c z' _ T _ rs (setRow_heap w b cs _ T _ hb) hlen2 hroom hm (by simp only [List.size_toArray, hspl, Array.length_toList]; exact hszz) hallz ?_
                              have e1 : (((splice cs.toList (off + els.length * z') nvs).toArray.toList.drop off).take ((els.length + news.length) * z')) = (cs.toList.drop off).take (els.length * z') ++ nvs := by
                                rw [Nat.add_mul, ← hnl]
                                exact splice_seg cs.toList off (els.length * z') nvs (by simpa using hfit)
                              rw [e1, List.flatten_append]
                              have h2 := hl.append hncz
                              rw [List.append_nil] at h2
                              refine h2.keep (fun b' hs => ⟨hS' b' hs, setRow_other w b b' _ ?_⟩) (fun b' hr => setRow_other w b b' _ ?_)
                              · intro e
                                subst e
                                have hb1 := (hmem b').2 (.inl (by simp))
                                rcases hs with hs | hs
                                · have := h.old b' hs; have := h.own s b' hb1; omega
                                · exact hs.2.2 s hb1
                              · intro e
                                subst e
                                exact (List.nodup_cons.1 hndu).1 hr
                          · obtain ⟨cap', hc1, hc2, hrun⟩ := run_append_growO (P := P) (w := w) t o.type t' e' i zv hu htn hi hzv (some ⟨b, off, none⟩) els.length c ((cs.toList.drop off).take (els.length * z')) (by rw [hlold, hsz]) hcellold A news.length cp nvs (by rw [hnl, hsz]) hncell (by omega) (by unfold maxLen at hmax; omega) (growslice_fits (by omega) (by rw [hby]; exact hbytes))
                            refine hgive _ (w.heap.size :: rs) (fun b hb _ => Below.heap_alloc w.drew _ b hb) (hBb _) ?_ ?_ _ (fun S' hS' => ?_) (by rw [hyv]; exact hrun)
                            · intro b' hb'
                              rcases List.mem_cons.1 hb' with rfl | hb'
                              · exact ⟨.inr (Nat.le_refl _), by simp⟩
                              · have hlt := (h.own s b' ((hmem b').2 (.inl (by simp [hb'])))).2
                                exact ⟨.inl (by simp [hb']), by simp; omega⟩
                            · refine List.nodup_cons.2 ⟨fun hb' => ?_, (List.nodup_cons.1 hndu).2⟩
                              have := (h.own s _ ((hmem _).2 (.inl (List.mem_cons_of_mem _ hb')))).2
                              omega
                            · exact new_row (w := w) (S := SS B S0 w rows) hallz hl hncz e' _ cap' hc1 hc2 (by rw [hpad, hlold, hnl, ← Nat.add_mul, ← Nat.add_mul]; congr 1; omega) (fun b' hb' => (h.own s b' ((hmem b').2 (.inl (by simp [hb'])))).2) (fun b hs => hs.lt h.old h.base) S' hS'
                      · cases he
                    · cases he
                  · cases hzt
                · cases hzt
              · cases hzt
            · cases helT
          · cases he
        · cases he
      · cases he
    · cases he
  · cases he
end

end Go.Av
