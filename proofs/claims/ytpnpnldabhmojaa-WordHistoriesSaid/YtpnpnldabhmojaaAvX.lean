/- Steps of a region that draws its order. -/
import Derived.Test.YtpnpnldabhmojaaAvW
set_option linter.unusedVariables false
set_option linter.unusedSimpArgs false
namespace Go.Av
open Go Go.RowKit

def also (E : Nat → Bool) (j : Nat) : Nat → Bool := fun i => if i = j then true else E i

theorem also_true {E : Nat → Bool} {j i : Nat} (h : E i = true) : also E j i = true := by
  unfold also
  split
  · rfl
  · exact h

theorem also_down {ops : Array Oper} {E : Nat → Bool} {j : Nat} (hd : Down ops E) (hr : Ready ops E j) : Down ops (also E j) := by
  intro i o ho hi l hl
  unfold also at hi
  split at hi
  · rename_i e
    subst e
    exact also_true (hr o ho l hl)
  · exact also_true (hd i o ho hi l hl)

structure Obl (P : Program) (A : List DOp) (c : CR) (av : Nat → AV) (cn : Nat → Option Nat) (E : Nat → Bool) (V : Env) : Prop where
  val : ∀ (j : Nat) x d, A[j]? = some x → x.o.dst = some d → E j = false → V.get d = av j
  gk : ∀ (j : Nat) x, A[j]? = some x → E j = false → gmk P (view V x.o.ts) x.o (fun a r => a = av j ∧ r = (cn j).map (·, []))

theorem kill_dead (s n : Nat) : (AV.sv (.one .dead)).kill s n = .sv (.one .dead) := rfl

theorem killsOf_no : ∀ (k : List (Nat × Nat)), killsOf k .no = .no
  | [] => rfl
  | (s, n) :: k => killsOf_no k

theorem killsOf_sv (x : SV) : ∀ (k : List (Nat × Nat)), killsOf k (.sv x) = .sv x
  | [] => rfl
  | (s, n) :: k => killsOf_sv x k

section
variable {P : Program} {N B0 : Nat} {w0 : World} {S0 : Nat → Prop} {Q : Exit → Act → World → Prop}
variable {ops : Array Oper} {A : List DOp} {B : List BOp} {c : CR} {av : Nat → AV} {cn : Nat → Option Nat} {E : Nat → Bool} {V env : Env}

theorem Mid.stepA (hs : Static N ops A B c) (hm : Mid A cn E V env) (hri : RefInv c A V) (hdn : Down ops E) (hcn : ∀ (k : Nat) z, A[k]? = some z → cn k = takes z.o.op)
    {j : Nat} {x : DOp} {d : Nat} (hx : A[j]? = some x) (hd : x.o.dst = some d) (hE : E j = false) (hr : Ready ops E j) (hval : V.get d = av j) (hrefs : ((av j).refs.all fun s => !c.has s || x.kn.contains s) = true)
    (hroot : ∀ s, cn j = some s → ∃ y, env.root s = some y) : Mid A cn (also E j) V ((env.loses ((cn j).map (·, []))).put d (av j)) := by
  have hEi : ∀ i, also E j i = false → E i = false ∧ i ≠ j := by
    intro i h
    unfold also at h
    split at h
    · cases h
    · rename_i e; exact ⟨h, e⟩
  obtain ⟨o, d', ho, _, hd', _, _, _, _, hcd⟩ := hs.opA j x hx
  rw [hd] at hd'
  injection hd' with hd'
  subst hd'
  have hjA : j < A.length := (List.getElem?_eq_some_iff.1 hx).1
  -- what is taken is there
  have htk : ∀ s, cn j = some s → ∃ (i : Nat) (y : DOp), A[i]? = some y ∧ y.o.dst = some s ∧ E i = true := by
    intro s hsj
    rw [hcn j x hx] at hsj
    obtain ⟨⟨i, y, hy, hyd⟩, hts, _⟩ := hs.take j x s hx hsj
    exact ⟨i, y, hy, hyd, hr o ho i (hs.srcA j x o hx ho s hts i y hy hyd)⟩
  have hget : ∀ t, ((env.loses ((cn j).map (·, []))).put d (av j)).get t = if d = t then (av j).kill d 0 else if cn j = some t then .sv (.one .dead) else (match cn j with | some s => (env.get t).kill s 0 | none => env.get t).kill d 0 := by
    intro t
    rw [Env.get_put]
    split
    · rfl
    · cases hcj : cn j with
      | none => simp [Env.loses]
      | some s =>
        obtain ⟨y, hy⟩ := hroot s hcj
        simp only [Option.map_some, Env.loses, Env.give, hy, List.isEmpty_nil, if_true, setP, Env.get_setRoot, Option.some.injEq]
        split
        · rfl
        · rfl
  have hself : (av j).kill d 0 = av j := by
    refine AV.kill_noop d 0 _ fun hin => ?_
    have := List.all_eq_true.1 hrefs d hin
    simp only [hcd, Bool.not_true, Bool.false_or, List.contains_iff_mem] at this
    obtain ⟨l, z, hz, hzd, hmust⟩ := hs.kn_must j hx d this
    have hl := hmust E hdn hr
    rw [hs.inj l j z x d hz hx hzd hd, hE] at hl
    cases hl
  refine ⟨?_, ?_, ?_⟩
  · intro i y d2 hy hyd hEi'
    obtain ⟨h1, h2⟩ := hEi i hEi'
    have h3 := hm.out i y d2 hy hyd h1
    rw [hget, h3]
    have hne : d ≠ d2 := fun e => h2 (hs.inj i j y x d2 hy hx hyd (e ▸ hd))
    rw [if_neg hne]
    split
    · rename_i hc
      obtain ⟨i', y', hy', hyd', hE'⟩ := htk d2 hc
      rw [hs.inj i' i y' y d2 hy' hy hyd' hyd, h1] at hE'
      cases hE'
    · cases cn j <;> rfl
  · intro k hk hEk t hct
    rw [hget]
    by_cases hkj : k = j
    · subst hkj
      obtain ⟨i', y', hy', hyd', hE'⟩ := htk t hct
      have hne : d ≠ t := by
        rintro rfl
        rw [hs.inj i' k y' x d hy' hx hyd' hd, hE] at hE'
        cases hE'
      rw [if_neg hne, if_pos hct]
    · have hEk' : E k = true := by unfold also at hEk; rw [if_neg hkj] at hEk; exact hEk
      have h3 := hm.gone k hk hEk' t hct
      have hz := List.getElem?_eq_getElem hk
      have hct' := hct
      rw [hcn k _ hz] at hct'
      obtain ⟨⟨i, y, hy, hyd⟩, hts, _⟩ := hs.take k _ t hz hct'
      obtain ⟨ok, _, hok, _⟩ := hs.opA k _ hz
      have hEi' := hdn k ok hok hEk' i (hs.srcA k _ ok hz hok t hts i y hy hyd)
      have hne : d ≠ t := by
        rintro rfl
        rw [hs.inj i j y x d hy hx hyd hd, hE] at hEi'
        cases hEi'
      rw [if_neg hne, h3]
      split
      · rfl
      · cases cn j <;> rfl
  · intro t h1 h2
    rw [hget]
    by_cases hdt : d = t
    · subst hdt
      rw [if_pos rfl, hself, hval]
    · rw [if_neg hdt]
      have hnt : cn j ≠ some t := h2 j hjA (by simp [also])
      rw [if_neg hnt]
      have hE1 : ∀ (i : Nat) y, A[i]? = some y → y.o.dst = some t → E i = true := by
        intro i y hy hyd
        have h3 := h1 i y hy hyd
        unfold also at h3
        split at h3
        · rename_i e
          subst e
          rw [hy] at hx
          injection hx with hx
          subst hx
          rw [hyd] at hd
          injection hd with hd
          exact (hdt hd.symm).elim
        · exact h3
      have hh := hm.here t hE1 (fun k hk hEk => h2 k hk (also_true hEk))
      rw [hh]
      have hnr : ∀ s, c.has s = true → (∀ (i : Nat) y, A[i]? = some y → y.o.dst = some t → s ∉ y.kn) → s ∉ (V.get t).refs := by
        intro s hcs hno hin
        obtain ⟨i, y, hy, hyd, hk⟩ := hri t s hin hcs
        exact hno i y hy hyd hk
      have hk1 : (V.get t).kill d 0 = V.get t := by
        refine AV.kill_noop d 0 _ (hnr d hcd fun i y hy hyd hk => ?_)
        obtain ⟨l, z, hz, hzd, hmust⟩ := hs.kn_must i hy d hk
        obtain ⟨oi, _, hoi, _⟩ := hs.opA i y hy
        have hl := hmust E hdn (fun o' ho' l' hl' => hdn i o' ho' (hE1 i y hy hyd) l' hl')
        rw [hs.inj l j z x d hz hx hzd hd, hE] at hl
        cases hl
      cases hcj : cn j with
      | none => exact hk1
      | some s =>
        dsimp only
        have hk2 : (V.get t).kill s 0 = V.get t := by
          obtain ⟨i', y', hy', hyd', hE'⟩ := htk s hcj
          obtain ⟨_, d2, _, _, g1, _, _, _, _, g2⟩ := hs.opA i' y' hy'
          rw [hyd'] at g1
          injection g1 with g1
          subst g1
          refine AV.kill_noop s 0 _ (hnr s g2 fun i y hy hyd hk => ?_)
          obtain ⟨oi, _, hoi, _⟩ := hs.opA i y hy
          rw [hcn j x hx] at hcj
          exact (hs.knA i y oi hy hoi s hk).2 j x hx hcj
        rw [hk2, hk1]

theorem Mid.stepB (hs : Static N ops A B c) (hm : Mid A cn E V env) (hdn : Down ops E) (hcn : ∀ (k : Nat) z, A[k]? = some z → cn k = takes z.o.op)
    {m : Nat} {b : BOp} (hb : B[m]? = some b) (hr : Ready ops E (A.length + m)) {f : Eff} (hf : (f.w.all fun x => (!c.has x.1 || b.kn.contains x.1 || b.o.dst == some x.1) && x.2.refs.all fun s => !c.has s) = true) :
    Mid A cn (also E (A.length + m)) (f.on V) (f.on env) := by
  have hE : ∀ j, j < A.length → also E (A.length + m) j = E j := by
    intro j hj
    unfold also
    rw [if_neg (by omega)]
  have hkeyL : ∀ (t : Nat) (l : Env), hasKey t l = true → ∃ a, (t, a) ∈ l := by
    intro t l
    induction l with
    | nil => intro h; cases h
    | cons x l ih =>
      obtain ⟨s, a⟩ := x
      intro h
      simp only [hasKey, Bool.or_eq_true, beq_iff_eq] at h
      rcases h with h | h
      · exact ⟨a, by simp [h]⟩
      · obtain ⟨a', ha'⟩ := ih h
        exact ⟨a', by simp [ha']⟩
  have hkey : ∀ t, hasKey t f.w = true → ∀ (j : Nat) x, A[j]? = some x → x.o.dst = some t → t ∈ b.kn := by
    intro t hk j x hx hxd
    obtain ⟨a, ha⟩ := hkeyL t f.w hk
    have := List.all_eq_true.1 hf _ ha
    simp only [Bool.and_eq_true, Bool.or_eq_true, Bool.not_eq_true', List.contains_iff_mem, beq_iff_eq] at this
    rcases this.1 with (h1 | h1) | h1
    · exact (hs.not_has h1 hx hxd).elim
    · exact h1
    · exact (hs.dstB m b t hb h1 j x hx hxd).elim
  obtain ⟨o, ho, _⟩ := hs.opB m b hb
  refine ⟨?_, ?_, ?_⟩
  · intro j x d hx hxd hEj
    have hjA : j < A.length := (List.getElem?_eq_some_iff.1 hx).1
    rw [hE j hjA] at hEj
    rw [Eff.get_on]
    split
    · rename_i hk
      have hkn := hkey d hk j x hx hxd
      obtain ⟨l, z, hz, hzd, hmust⟩ := hs.kn_mustB hb hkn
      have hl := hmust E hdn hr
      rw [hs.inj l j z x d hz hx hzd hxd, hEj] at hl
      cases hl
    · rw [hm.out j x d hx hxd hEj, killsOf_no]
  · intro k hk hEk t hct
    rw [hE k hk] at hEk
    rw [Eff.get_on]
    have hz := List.getElem?_eq_getElem hk
    have hct' := hct
    rw [hcn k _ hz] at hct'
    split
    · rename_i hkk
      obtain ⟨⟨i, y, hy, hyd⟩, _⟩ := hs.take k _ t hz hct'
      exact ((hs.knB m b o hb ho t (hkey t hkk i y hy hyd)).2 k _ hz hct').elim
    · rw [hm.gone k hk hEk t hct, killsOf_sv]
  · intro t h1 h2
    rw [Eff.get_on, Eff.get_on]
    split
    · rfl
    · rw [hm.here t (fun j x hx hxd => by rw [← hE j (List.getElem?_eq_some_iff.1 hx).1]; exact h1 j x hx hxd) (fun k hk hEk => h2 k hk (by rw [hE k hk]; exact hEk))]

theorem RefInv.stepB (hri : RefInv c A V) {b : BOp} {f : Eff} (hf : (f.w.all fun x => (!c.has x.1 || b.kn.contains x.1 || b.o.dst == some x.1) && x.2.refs.all fun s => !c.has s) = true) : RefInv c A (f.on V) := by
  intro t s hsr hcs
  rw [Eff.get_on] at hsr
  split at hsr
  · rename_i hk
    have key : ∀ (l : Env), hasKey t l = true → ∃ x ∈ l, x.2 = Env.get l t := by
      intro l
      induction l with
      | nil => intro h; cases h
      | cons x l ih =>
        obtain ⟨s', a⟩ := x
        intro h
        simp only [hasKey, Bool.or_eq_true, beq_iff_eq] at h
        simp only [Env.get]
        by_cases e : s' = t
        · exact ⟨(s', a), by simp, by simp [e]⟩
        · rcases h with h | h
          · exact (e h).elim
          · obtain ⟨x, hx, hx2⟩ := ih h
            exact ⟨x, by simp [hx], by rw [if_neg e]; exact hx2⟩
    obtain ⟨x, hx, hx2⟩ := key f.w hk
    have := List.all_eq_true.1 hf x hx
    simp only [Bool.and_eq_true] at this
    have h3 := List.all_eq_true.1 this.2 s (by rw [hx2]; exact hsr)
    rw [hcs] at h3
    cases h3
  · exact hri t s (killsOf_refs _ _ s hsr) hcs

theorem lateOk_get {e e' : Env} : ∀ {os : List DOp} {us : List Bool}, lateOk P e e' os us → ∀ (j : Nat) x d, os[j]? = some x → us[j]? = some true → x.o.dst = some d → e'.get d = e.get d ∧ (view e' x.o.ts = view e x.o.ts ∨ gmk P (view e' x.o.ts) x.o (fun av r => av = e.get d ∧ r = none))
  | [], _, _, j, x, d, hx, _, _ => by simp at hx
  | _ :: _, [], _, j, x, d, _, hu, _ => by simp at hu
  | y :: os, u :: us, h, j, x, d, hx, hu, hd => by
    cases j with
    | zero =>
      simp only [List.getElem?_cons_zero, Option.some.injEq] at hx hu
      subst hx
      subst hu
      simp only [lateOk, hd] at h
      exact h.1
    | succ j =>
      simp only [List.getElem?_cons_succ] at hx hu
      cases u with
      | true => exact lateOk_get h.2 j x d hx hu hd
      | false => exact lateOk_get (os := os) (us := us) h j x d hx hu hd

theorem Obl.stepB (hs : Static N ops A B c) (hob : Obl P A c av cn E V) (hdn : Down ops E) (hcn : ∀ (k : Nat) z, A[k]? = some z → cn k = takes z.o.op) {m : Nat} {b : BOp} (hb : B[m]? = some b) (hr : Ready ops E (A.length + m)) {f : Eff} (hl : lateOk P V (f.on V) A b.un) :
    Obl P A c av cn (also E (A.length + m)) (f.on V) := by
  have hEj : ∀ (j : Nat) (x : DOp), A[j]? = some x → also E (A.length + m) j = false → E j = false ∧ b.un[j]? = some true := by
    intro j x hx h
    have hjA : j < A.length := (List.getElem?_eq_some_iff.1 hx).1
    unfold also at h
    rw [if_neg (by omega)] at h
    refine ⟨h, ?_⟩
    by_cases hu : b.un[j]? = some true
    · exact hu
    · have := hs.mustA m b hb j hjA hu E hdn hr
      rw [h] at this
      cases this
  refine ⟨?_, ?_⟩
  · intro j x d hx hxd hE
    obtain ⟨h1, h2⟩ := hEj j x hx hE
    rw [(lateOk_get hl j x d hx h2 hxd).1]
    exact hob.val j x d hx hxd h1
  · intro j x hx hE
    obtain ⟨h1, h2⟩ := hEj j x hx hE
    obtain ⟨_, d, _, _, hxd, _⟩ := hs.opA j x hx
    rcases (lateOk_get hl j x d hx h2 hxd).2 with h3 | h3
    · rw [h3]
      exact hob.gk j x hx h1
    · rw [hcn j x hx, hs.unt m b hb j x h2 hx]
      rw [hob.val j x d hx hxd h1] at h3
      exact h3
end

end Go.Av
