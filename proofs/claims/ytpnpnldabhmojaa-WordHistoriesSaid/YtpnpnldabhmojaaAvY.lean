/- A region that draws its order, walked once. -/
import Derived.Test.YtpnpnldabhmojaaAvX
set_option linter.unusedVariables false
set_option linter.unusedSimpArgs false
namespace Go.Av
open Go Go.RowKit

theorem clears_get (c : CR) (t : Nat) : ∀ (e : Env), (clears c e).get t = if c.has t || (e.get t).refs.any c.has then .no else e.get t
  | [] => by simp [clears, Env.get]
  | (s, a) :: e => by
    have ih := clears_get c t e
    by_cases h : s = t
    · subst h; simp [clears, Env.get]
    · simp only [clears, Env.get, h, if_false]
      exact ih

section
variable {P : Program} {N B0 : Nat} {w0 : World} {S0 : Nat → Prop} {Q : Exit → Act → World → Prop}
variable {ops : Array Oper} {A : List DOp} {B : List BOp} {c : CR} {cn : Nat → Option Nat} {E : Nat → Bool} {V env : Env}

theorem Sim.clears {a : Act} {w : World} (c : CR) (h : Sim N B0 w0 S0 env a w) : Sim N B0 w0 S0 (Av.clears c env) a w := by
  obtain ⟨rows, h⟩ := h
  refine ⟨rows, h.defers, h.size, h.below, h.base, h.old, h.own, h.nodup, h.apart, fun t => ?_⟩
  rw [clears_get]
  split
  · trivial
  · rename_i hc
    simp only [Bool.or_eq_true, not_or, List.any_eq_true, not_exists, not_and] at hc
    refine AVR.refKeep (fun _ h => h) _ (h.rel t) (refOk_refs _ fun s hs => ?_)
    unfold Env.root
    rw [clears_get]
    have hr := h.rel t
    -- a root leads nowhere
    have : ∀ x : AV, x.asOne ≠ none → x.refs = [] := by
      intro x
      cases x <;> simp [AV.asOne, AV.refs]
    split
    · rename_i h2
      simp only [Bool.or_eq_true, List.any_eq_true] at h2
      rcases h2 with h2 | ⟨u, hu, h2⟩
      · exact (hc.2 s hs h2).elim
      · cases hx : (env.get s).asOne with
        | none => rfl
        | some y =>
          rw [this _ (by rw [hx]; simp)] at hu
          cases hu
    · rfl

theorem arunA_get (hs : Static N ops A B c) {K : Env → List Nat → Prop} : ∀ (rest : List DOp) (j0 : Nat) (e : Env) (cs : List Nat), (∀ i, rest[i]? = A[j0 + i]?) → j0 + rest.length = A.length →
    (∀ t, ∀ s ∈ (e.get t).refs, c.has s = true → ∃ (i : Nat) (x : DOp), i < j0 ∧ A[i]? = some x ∧ x.o.dst = some t ∧ s ∈ x.kn) → arunA P c rest e cs K →
    ∃ (av : Nat → AV) (e1 : Env) (cs1 : List Nat), K e1 cs1 ∧ RefInv c A e1 ∧ (∀ t, (∀ (i : Nat) (x : DOp), j0 ≤ i → A[i]? = some x → x.o.dst ≠ some t) → e1.get t = e.get t) ∧
      (∀ (j : Nat) x d, j0 ≤ j → A[j]? = some x → x.o.dst = some d → e1.get d = av j ∧ ((av j).refs.all fun s => !c.has s || x.kn.contains s) = true ∧ gmk P (view e1 x.o.ts) x.o (fun a r => a = av j ∧ r = (takes x.o.op).map (·, []))) ∧
      ∀ s, s ∈ cs1 ↔ s ∈ cs ∨ ∃ (j : Nat) (x : DOp), j0 ≤ j ∧ A[j]? = some x ∧ takes x.o.op = some s
  | [], j0, e, cs, hl, hlen, hri, hk => by
    simp only [List.length_nil, Nat.add_zero] at hlen
    have hno : ∀ (j : Nat) (x : DOp), j0 ≤ j → A[j]? ≠ some x := by
      intro j x hj hx
      have := (List.getElem?_eq_some_iff.1 hx).1
      omega
    refine ⟨fun _ => .no, e, cs, hk, fun t s h1 h2 => ?_, fun _ _ => rfl, fun j x d hj hx => (hno j x hj hx).elim, fun s => ⟨.inl, ?_⟩⟩
    · obtain ⟨i, x, _, h3⟩ := hri t s h1 h2
      exact ⟨i, x, h3⟩
    · rintro (h | ⟨j, x, hj, hx, _⟩)
      · exact h
      · exact (hno j x hj hx).elim
  | x :: rest, j0, e, cs, hl, hlen, hri, hk => by
    have hx : A[j0]? = some x := by have := hl 0; simpa using this.symm
    obtain ⟨o, d, ho, hod, hxd, hop, hg, hgN, hdN, hcd⟩ := hs.opA j0 x hx
    simp only [arunA, hxd] at hk
    obtain ⟨av0, r, ⟨hchk, hr⟩, hmk⟩ := gmk_mono hk
    have hrest : r = (takes x.o.op).map (·, []) ∧ ∃ cs', arunA P c rest ((d, av0) :: e) cs' K ∧ ∀ s, s ∈ cs' ↔ s ∈ cs ∨ takes x.o.op = some s := by
      cases r with
      | none =>
        obtain ⟨h1, h2⟩ := hr
        rw [h1]
        exact ⟨rfl, cs, h2, by simp⟩
      | some sp =>
        obtain ⟨s, p⟩ := sp
        obtain ⟨rfl, h1, h2⟩ := hr
        rw [h1]
        refine ⟨rfl, s :: cs, h2, fun s' => ?_⟩
        simp only [List.mem_cons, Option.some.injEq]
        constructor
        · rintro (h | h)
          · exact .inr h.symm
          · exact .inl h
        · rintro (h | h)
          · exact .inr h
          · exact .inl h.symm
    obtain ⟨hrr, cs', hrun, hcs'⟩ := hrest
    have hri' : ∀ t, ∀ s ∈ (Env.get ((d, av0) :: e) t).refs, c.has s = true → ∃ (i : Nat) (y : DOp), i < j0 + 1 ∧ A[i]? = some y ∧ y.o.dst = some t ∧ s ∈ y.kn := by
      intro t s h1 h2
      simp only [Env.get] at h1
      split at h1
      · rename_i e'
        subst e'
        have := List.all_eq_true.1 hchk s h1
        simp only [h2, Bool.not_true, Bool.false_or, List.contains_iff_mem] at this
        exact ⟨j0, x, by omega, hx, hxd, this⟩
      · obtain ⟨i, y, h3, h4⟩ := hri t s h1 h2
        exact ⟨i, y, by omega, h4⟩
    obtain ⟨av', e1, cs1, hK, hinv, hfr, hall, hcs1⟩ := arunA_get hs rest (j0 + 1) ((d, av0) :: e) cs' (fun i => by have := hl (i + 1); simpa [Nat.add_assoc, Nat.add_comm 1 i] using this) (by simp only [List.length_cons] at hlen; omega) hri' hrun
    have hnext : ∀ (i : Nat) (y : DOp), j0 + 1 ≤ i → A[i]? = some y → y.o.dst ≠ some d := fun i y hi hy hyd => by
      have := hs.inj i j0 y x d hy hx hyd hxd
      omega
    have hval : e1.get d = av0 := by
      rw [hfr d hnext]
      simp [Env.get]
    have hkeep : ∀ t, (∀ (i : Nat) (y : DOp), j0 ≤ i → A[i]? = some y → y.o.dst ≠ some t) → e1.get t = e.get t := by
      intro t ht
      rw [hfr t (fun i y hi hy => ht i y (by omega) hy)]
      have hne : d ≠ t := fun e' => ht j0 x (by omega) hx (e' ▸ hxd)
      simp [Env.get, hne]
    have hview : view e x.o.ts = view e1 x.o.ts := by
      have hts : ∀ t ∈ x.o.ts, e.get t = e1.get t := fun t ht => (hkeep t fun i y hi hy hyd => by
        have := hs.back j0 o ho i (hs.srcA j0 x o hx ho t ht i y hy hyd)
        omega).symm
      refine view_congr hts fun t ht s hsr => (hkeep s fun i y hi hy hyd => ?_).symm
      cases hc : c.has s with
      | false => exact hs.not_has hc hy hyd
      | true =>
        obtain ⟨i', y', hi', hy', hyd', hkn⟩ := hri t s hsr hc
        obtain ⟨l, z, hz, hzd, hmust⟩ := hs.kn_must i' hy' s hkn
        have hl' := hmust (fun k => decide (k < i')) (fun i o' ho' h1 l hl => by
          have := hs.back i o' ho' l hl
          simp only [decide_eq_true_eq] at h1 ⊢
          omega) (fun o' ho' l hl => by
          have := hs.back i' o' ho' l hl
          simp only [decide_eq_true_eq]
          omega)
        simp only [decide_eq_true_eq] at hl'
        have := hs.inj i l y z s hy hz hyd hzd
        omega
    refine ⟨fun j => if j = j0 then av0 else av' j, e1, cs1, hK, hinv, hkeep, fun j y d' hj hy hyd => ?_, fun s => ?_⟩
    · by_cases e' : j = j0
      · subst e'
        rw [hx] at hy
        injection hy with hy
        subst hy
        rw [hxd] at hyd
        injection hyd with hyd
        subst hyd
        simp only [if_true]
        refine ⟨hval, hchk, ?_⟩
        rw [← hview, ← hrr]
        exact hmk
      · simp only [e', if_false]
        exact hall j y d' (by omega) hy hyd
    · rw [hcs1, hcs']
      constructor
      · rintro ((h | h) | ⟨j, y, hj, h⟩)
        · exact .inl h
        · exact .inr ⟨j0, x, by omega, hx, h⟩
        · exact .inr ⟨j, y, by omega, h⟩
      · rintro (h | ⟨j, y, hj, hy, h⟩)
        · exact .inl (.inl h)
        · by_cases e' : j = j0
          · subst e'
            rw [hx] at hy
            injection hy with hy
            subst hy
            exact .inl (.inr h)
          · exact .inr ⟨j, y, by omega, hy, h⟩

theorem mem_aft {o : Oper} {l : Nat} : l ∈ aft o ↔ ∃ e ∈ o.after, Region.binds .any e = true ∧ e.on = l := by
  simp only [aft, List.mem_map, List.mem_filter, Array.mem_toList_iff]
  constructor
  · rintro ⟨e, ⟨h1, h2⟩, h3⟩; exact ⟨e, h1, h2, h3⟩
  · rintro ⟨e, h1, h2, h3⟩; exact ⟨e, ⟨h1, h2⟩, h3⟩

theorem deads_get (t : Nat) (e : Env) : ∀ (cs : List Nat), (deads cs e).get t = if t ∈ cs then .sv (.one .dead) else e.get t
  | [] => by simp [deads]
  | s :: cs => by
    simp only [deads, Env.get]
    by_cases h : s = t
    · simp [h]
    · rw [if_neg h, deads_get t e cs]
      have : (t ∈ s :: cs) ↔ t ∈ cs := by simp; omega
      simp only [this]

def isOn (listed : Array Bool) : Nat → Bool := fun i => listed.getD i false

theorem isOn_set {listed : Array Bool} {j : Nat} (hj : j < listed.size) : isOn (listed.setIfInBounds j true) = also (isOn listed) j := by
  funext i
  unfold isOn also
  split
  · rename_i e
    subst e
    simp [hj]
  · rename_i e
    exact getD_set_ne false (fun h => e h.symm)

theorem any_ok (hs : Static N ops A B c) (hcn : ∀ (k : Nat) z, A[k]? = some z → cn k = takes z.o.op) {av : Nat → AV} (hrefs : ∀ (j : Nat) x, A[j]? = some x → ((av j).refs.all fun s => !c.has s || x.kn.contains s) = true)
    {K : Env → Prop} {cs : List Nat} (hcs : ∀ s, s ∈ cs ↔ ∃ (j : Nat) (x : DOp), A[j]? = some x ∧ takes x.o.op = some s) (hq : ∀ e2 a w, K e2 → Sim N B0 w0 S0 e2 a w → Q .normal a w) :
    ∀ (fuel : Nat) (listed : Array Bool) (a : Act) (w : World) (m : Nat) (V env : Env), listed.size = ops.size → listed.toList.count false ≤ fuel → m ≤ B.length → (∀ i, i < B.length → isOn listed (A.length + i) = decide (i < m)) →
      Down ops (isOn listed) → RefInv c A V → Obl P A c av cn (isOn listed) V → arunB P c A (B.drop m) V (fun e2 => K (deads cs e2)) → Mid A cn (isOn listed) V env → Sim N B0 w0 S0 env a w → wpAny P .any ops Q fuel listed a w := by
  -- where nothing is ready, all is done
  have hend : ∀ (listed : Array Bool) (a : Act) (w : World) (m : Nat) (V env : Env), listed.size = ops.size → m ≤ B.length → (∀ i, i < B.length → isOn listed (A.length + i) = decide (i < m)) →
      arunB P c A (B.drop m) V (fun e2 => K (deads cs e2)) → Mid A cn (isOn listed) V env → Sim N B0 w0 S0 env a w → (∀ i, i < ops.size → isOn listed i = true) → Q .normal a w := by
    intro listed a w m V env hsz hm hon hrun hmid hsim hall
    have hmB : m = B.length := by
      rcases Nat.lt_or_ge m B.length with h | h
      · have h1 := hon m h
        rw [hall _ (by rw [hs.len]; omega)] at h1
        simp at h1
      · omega
    subst hmB
    rw [List.drop_length] at hrun
    refine hq _ a w hrun (Sim.congr (fun t => ?_) hsim)
    rw [deads_get]
    split
    · rename_i ht
      obtain ⟨k, z, hz, htz⟩ := (hcs t).1 ht
      have hk := (List.getElem?_eq_some_iff.1 hz).1
      exact hmid.gone k hk (hall k (by rw [hs.len]; omega)) t (by rw [hcn k z hz, htz])
    · rename_i ht
      refine hmid.here t (fun j x hx _ => hall j (by have := (List.getElem?_eq_some_iff.1 hx).1; rw [hs.len]; omega)) (fun k hk _ hc => ht ((hcs t).2 ?_))
      have hz := List.getElem?_eq_getElem hk
      exact ⟨k, _, hz, by rw [← hcn k _ hz, hc]⟩
  -- where nothing is ready, nothing is left
  have hready : ∀ (listed : Array Bool), listed.size = ops.size → Region.ready .any ops listed = [] → ∀ i, i < ops.size → isOn listed i = true := by
    intro listed hsz hr i
    induction i using Nat.strongRecOn with
    | ind i ih =>
      intro hi
      cases hl : isOn listed i with
      | true => rfl
      | false =>
        have hin : i ∈ Region.ready .any ops listed := by
          rw [mem_ready]
          have ho := Array.getElem?_eq_getElem hi
          refine ⟨?_, _, ho, fun e he hb => ?_⟩
          · unfold isOn at hl
            have hlt : i < listed.size := by omega
            simp only [Array.getD_eq_getD_getElem?, Array.getElem?_eq_getElem hlt, Option.getD_some] at hl ⊢
            exact hl
          · have hlt := hs.back i _ ho e.on (mem_aft.2 ⟨e, he, hb, rfl⟩)
            exact ih e.on hlt (by omega)
        rw [hr] at hin
        cases hin
  intro fuel
  induction fuel with
  | zero =>
    intro listed a w m V env hsz hcount hm hon hdn hri hob hrun hmid hsim
    have hall : ∀ i, i < ops.size → isOn listed i = true := by
      intro i hi
      cases hl : isOn listed i with
      | true => rfl
      | false =>
        have : false ∈ listed.toList := by
          have hlt : i < listed.size := by omega
          unfold isOn at hl
          simp only [Array.getD_eq_getD_getElem?, Array.getElem?_eq_getElem hlt, Option.getD_some] at hl
          rw [← hl]
          exact Array.getElem_mem_toList hlt
        have := List.count_pos_iff.2 this
        omega
    refine ⟨?_, hend listed a w m V env hsz hm hon hrun hmid hsim hall⟩
    rw [List.eq_nil_iff_forall_not_mem]
    intro i hi
    obtain ⟨h1, o, ho, _⟩ := mem_ready.1 hi
    have hlt := (Array.getElem?_eq_some_iff.1 ho).1
    have h2 := hall i hlt
    unfold isOn at h2
    have hlt' : i < listed.size := by omega
    simp only [Array.getD_eq_getD_getElem?, Array.getElem?_eq_getElem hlt', Option.getD_some] at h1 h2
    rw [h1] at h2
    cases h2
  | succ fuel ih =>
    intro listed a w m V env hsz hcount hm hon hdn hri hob hrun hmid hsim
    refine ⟨fun hr => hend listed a w m V env hsz hm hon hrun hmid hsim (hready listed hsz hr), fun j hj => ?_⟩
    obtain ⟨hun, o, ho, haft⟩ := mem_ready.1 hj
    have hjn := (Array.getElem?_eq_some_iff.1 ho).1
    have hjl : j < listed.size := by omega
    have hE : isOn listed j = false := by
      unfold isOn
      simp only [Array.getD_eq_getD_getElem?, Array.getElem?_eq_getElem hjl, Option.getD_some] at hun ⊢
      exact hun
    have hr : Ready ops (isOn listed) j := by
      intro o' ho' l hl
      rw [ho] at ho'
      injection ho' with ho'
      subst ho'
      obtain ⟨e, he, hb, rfl⟩ := mem_aft.1 hl
      exact haft e he hb
    have hcount' : (listed.setIfInBounds j true).toList.count false ≤ fuel := by
      have hlt : j < listed.toList.length := by simpa using hjl
      have hf : listed.toList[j] = false := by
        unfold isOn at hE
        simp only [Array.getD_eq_getD_getElem?, Array.getElem?_eq_getElem hjl, Option.getD_some] at hE
        simpa using hE
      rw [Array.toList_setIfInBounds, List.count_set hlt]
      have hpos : 0 < listed.toList.count false := List.count_pos_iff.2 (hf ▸ List.getElem_mem hlt)
      simp [hf]
      simp at hcount hpos
      omega
    have hsz' : (listed.setIfInBounds j true).size = ops.size := by simpa using hsz
    have hon' := isOn_set hjl
    have hdn' := also_down hdn hr
    unfold wpOp
    rw [ho]
    dsimp only
    rcases Nat.lt_or_ge j A.length with hjA | hjA
    · have hx := List.getElem?_eq_getElem hjA
      generalize hxe : A[j] = x at hx
      obtain ⟨o', d, ho', hod, hxd, hop, hg, hgN, hdN, hcd⟩ := hs.opA j x hx
      rw [ho] at ho'
      injection ho' with ho'
      subst ho'
      have hview := hmid.view hs hri hdn hcn (ts := x.o.ts) (fun t ht i y hy hyd => hr o ho i (hs.srcA j x o hx ho t ht i y hy hyd)) (fun t ht k hk hEk hck => by
        have hz := List.getElem?_eq_getElem hk
        rw [hcn k _ hz] at hck
        obtain ⟨_, _, h3, _⟩ := hs.take k _ t hz hck
        rw [← h3 j x hx ht, hE] at hEk
        cases hEk)
      have hmk := hob.gk j x hx hE
      rw [← hview] at hmk
      have hxo : x.o = { dst := o.dst, op := o.op, g := x.o.g } := by
        rw [← hop, hod, ← hxd]
      obtain ⟨rows, h⟩ := hsim
      have hroot : ∀ s, cn j = some s → ∃ y, env.root s = some y := by
        intro s hcs'
        rw [hcs'] at hmk
        obtain ⟨y, hy⟩ := gmk_root hmk
        exact ⟨y, under_root (view_under _ _) hy⟩
      have hstep : ∀ a' w', Sim N B0 w0 S0 ((env.loses ((cn j).map (·, []))).put d (av j)) a' w' → wpAny P .any ops Q fuel (listed.setIfInBounds j true) a' w' := by
        intro a' w' hs'
        refine ih _ a' w' m V _ hsz' hcount' hm (fun i hi => ?_) (by rw [hon']; exact hdn') hri ?_ hrun (by rw [hon']; exact hmid.stepA hs hri hdn hcn hx hxd hE hr (hob.val j x d hx hxd hE) (hrefs j x hx) hroot) hs'
        · rw [hon', ← hon i hi]
          unfold also
          rw [if_neg (by omega)]
        · rw [hon']
          refine ⟨fun i y d' hy hyd hEi => hob.val i y d' hy hyd ?_, fun i y hy hEi => hob.gk i y hy ?_⟩ <;>
          · unfold also at hEi
            split at hEi
            · cases hEi
            · exact hEi
      have hgk := gmk_ok (Q := Q) (next := wpAny P .any ops Q fuel (listed.setIfInBounds j true)) h hg hgN (ts := x.o.ts) (av := av j) (c := (cn j).map (·, [])) (by rw [← hxo]; exact hmk) hdN hod hstep
      split
      · rename_i hw
        rw [if_pos hw] at hgk
        exact .inl hgk
      · rename_i hw
        rw [if_neg hw] at hgk
        exact hgk
    · have hiB : j - A.length < B.length := by have := hs.len; omega
      have hji : j = A.length + (j - A.length) := by omega
      generalize hi : j - A.length = i at hiB hji
      subst hji
      have hmi : i = m := by
        have h1 := hon i hiB
        rw [hE] at h1
        have h2 : ¬ i < m := by simpa using h1.symm
        rcases Nat.lt_or_ge m i with h3 | h3
        · have hb := List.getElem?_eq_getElem hiB
          have h4 := hs.mustB i _ hb m h3 (isOn listed) hdn hr
          rw [hon m (by omega)] at h4
          simp at h4
        · omega
      subst hmi
      have hb := List.getElem?_eq_getElem hiB
      rw [List.drop_eq_getElem_cons hiB] at hrun
      generalize hbe : B[i] = b at hb hrun
      obtain ⟨o', ho', hbd, hbo, hbg, hdN⟩ := hs.opB i b hb
      rw [ho] at ho'
      injection ho' with ho'
      subst ho'
      obtain ⟨hgn, hbm⟩ := hrun
      obtain ⟨f, ⟨hf, hlate, hrun'⟩, hbm'⟩ := bmk_mono hbm
      have hview := hmid.view hs hri hdn hcn (ts := b.o.ts) (fun t ht l y hy hyd => hr o ho l (hs.srcB i b o hb ho t ht l y hy hyd)) (fun t ht k hk hEk hck => by
        have hz := List.getElem?_eq_getElem hk
        rw [hcn k _ hz] at hck
        exact (hs.take k _ t hz hck).2.2.2 i b hb ht)
      rw [← hview, hbd, hbo] at hbm'
      obtain ⟨rows, h⟩ := hsim
      have hw : Region.wanted o (yielded ops a.tmps) = true := by
        rw [hgn] at hbg
        unfold slimGuard at hbg
        split at hbg
        · rename_i hnone
          simp [Region.wanted, hnone]
        · split at hbg <;> cases hbg
      rw [if_pos hw]
      refine .inl (bmk_ok h hbm' hdN fun a' w' hs' => ?_)
      refine ih _ a' w' (i + 1) (f.on V) (f.on env) hsz' hcount' (by omega) (fun k hk => ?_) (by rw [hon']; exact hdn') (hri.stepB hf) (by rw [hon']; exact hob.stepB hs hdn hcn hb hr hlate) hrun' (by rw [hon']; exact hmid.stepB hs hdn hcn hb hr hf) hs'
      rw [hon']
      unfold also
      split
      · have : k = i := by omega
        subst this
        simp
      · rw [hon k hk]
        have hne : k ≠ i := by omega
        simp only [decide_eq_decide]
        omega

/-- A REGION THAT DRAWS ITS ORDER, WALKED ONCE. -/
theorem xrun_ok (hs : Static N ops A B c) (hm : P.follows .mixedOrders = true) {K : Env → Prop} (hk : xrun P c A B env K) {a : Act} {w : World} (hsim : Sim N B0 w0 S0 env a { w with drawn := w.drawn + 1 })
    (hq : ∀ e2 a w, K e2 → Sim N B0 w0 S0 e2 a w → Q .normal a w) {id : Nat} : (Code.region id ops true).wp P Q a w := by
  refine wp_region_any hm ?_
  obtain ⟨av, e1, cs, hK, hri, hfr, hall, hcs⟩ := arunA_get hs A 0 (clears c env) [] (fun i => by rw [Nat.zero_add]) (by simp) (fun t s h1 h2 => by
    rw [clears_get] at h1
    split at h1
    · cases h1
    · rename_i hc
      simp only [Bool.or_eq_true, not_or, List.any_eq_true, not_exists, not_and] at hc
      exact (hc.2 s h1 h2).elim) hk
  have hoff : isOn (Array.replicate ops.size false) = fun _ => false := by
    funext i
    unfold isOn
    simp [Array.getElem?_replicate]
    split <;> rfl
  refine any_ok (cn := fun j => (A[j]?).bind fun x => takes x.o.op) hs (fun k z hz => by simp [hz]) (av := av) (fun j x hx => ?_) (cs := cs) (fun s => ?_) hq ops.size _ a _ 0 e1 (clears c env) (by simp) ?_ (Nat.zero_le _) (fun i _ => by rw [hoff]; simp) ?_ hri ?_ (by simpa using hK) ?_ (hsim.clears c)
  · obtain ⟨_, d, _, _, hxd, _⟩ := hs.opA j x hx
    exact (hall j x d (Nat.zero_le _) hx hxd).2.1
  · rw [hcs]
    simp
  · refine Nat.le_trans List.count_le_length ?_
    simp
  · rw [hoff]
    intro i o _ h
    cases h
  · rw [hoff]
    refine ⟨fun j x d hx hxd _ => (hall j x d (Nat.zero_le _) hx hxd).1, fun j x hx _ => ?_⟩
    obtain ⟨_, d, _, _, hxd, _⟩ := hs.opA j x hx
    have := (hall j x d (Nat.zero_le _) hx hxd).2.2
    simpa [hx] using this
  · rw [hoff]
    refine ⟨fun j x d hx hxd _ => ?_, fun k _ h => (by cases h), fun t h1 _ => ?_⟩
    · obtain ⟨_, d', _, _, g1, _, _, _, _, g2⟩ := hs.opA j x hx
      rw [hxd] at g1
      injection g1 with g1
      subst g1
      rw [clears_get, g2]
      rfl
    · exact (hfr t (fun i x _ hx hxd => by
        have := h1 i x hx hxd
        cases this)).symm
end

end Go.Av
