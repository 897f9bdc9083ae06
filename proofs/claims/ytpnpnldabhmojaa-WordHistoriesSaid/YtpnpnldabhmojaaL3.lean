/- Part of a proof by symbolic walks on plain data. -/
import Derived.Test.YtpnpnldabhmojaaCL3
import Derived.Test.YtpnpnldabhmojaaWF
import Derived.Test.YtpnpnldabhmojaaW9
import Derived.Test.YtpnpnldabhmojaaW11
import Derived.Test.YtpnpnldabhmojaaMT
set_option linter.unusedVariables false
set_option linter.unusedSimpArgs false
namespace Go.Av
open Go Go.RowKit Go.Proofs

theorem evsSame_iff : ∀ (a b : List Ev), (∀ x ∈ a, x.vals = none) → (∀ x ∈ b, x.vals = none) → (evsSame a b = true ↔ a = b)
  | [], [], _, _ => by simp [evsSame]
  | [], y :: b, _, _ => by simp [evsSame]
  | x :: a, [], _, _ => by simp [evsSame]
  | x :: a, y :: b, ha, hb => by
    have ih := evsSame_iff a b (fun z hz => ha z (by simp [hz])) (fun z hz => hb z (by simp [hz]))
    have hx := ha x (by simp)
    have hy := hb y (by simp)
    have e : evsSame (x :: a) (y :: b) = (evSame x y && evsSame a b) := by
      unfold evsSame
      simp only [List.length_cons, List.zip_cons_cons, List.all_cons]
      by_cases hl : a.length = b.length <;> simp [hl]
    rw [e, Bool.and_eq_true, ih, List.cons.injEq]
    refine and_congr_left fun _ => ?_
    simp only [evSame, Bool.and_eq_true, decide_eq_true_eq, beq_iff_eq]
    cases x; cases y
    simp_all
    constructor
    · rintro ⟨⟨⟨h1, h2⟩, h3⟩, h4⟩; exact ⟨h1, h2, h3, h4⟩
    · rintro ⟨h1, h2, h3, h4⟩; exact ⟨⟨⟨h1, h2⟩, h3⟩, h4⟩

theorem refSame_normal (a b : List Inter) : refSame a b = decide (normal a = normal b) := by
  rw [Bool.eq_iff_iff, decide_eq_true_eq, normal_iff]
  unfold refSame
  rw [List.all_eq_true]
  have key : ∀ r, evsSame (project a r) (project b r) = true ↔ project a r = project b r := fun r => evsSame_iff _ _ (project_vals a r) (project_vals b r)
  constructor
  · intro h r
    by_cases hr : ∃ x ∈ a ++ b, roles x r
    · obtain ⟨x, hx, hr⟩ := hr
      have := h x hx
      unfold same1 at this
      rw [Bool.and_eq_true, key, key] at this
      rcases hr with rfl | rfl
      · exact this.1
      · exact this.2
    · have h1 : ∀ y ∈ a, ¬ roles y r := fun y hy hr' => hr ⟨y, by simp [hy], hr'⟩
      have h2 : ∀ y ∈ b, ¬ roles y r := fun y hy hr' => hr ⟨y, by simp [hy], hr'⟩
      rw [project_nil_of h1, project_nil_of h2]
  · intro h x _
    unfold same1
    rw [Bool.and_eq_true, key, key]
    exact ⟨h _, h _⟩

theorem histories_short (l : List Inter) (n : Int) (hl : l.length ≤ 20) : (histories l n).length ≤ 6 ∧ ∀ h ∈ histories l n, h.length ≤ 1000000 := by
  unfold histories
  split
  · exact ⟨by simp, fun h hh => by cases hh⟩
  · refine ⟨by rw [hists_len]; omega, fun h hh => ?_⟩
    simp only [hists, List.mem_map] at hh
    obtain ⟨i, _, rfl⟩ := hh
    have := project_len i l
    omega

theorem same_refl (l : List Ev) : evsSame l l = true := by
  unfold evsSame
  simp only [decide_true, Bool.true_and]
  rw [List.all_eq_true]
  rintro ⟨x, y⟩ hx
  have hxy : x = y := by
    rw [List.mem_iff_getElem] at hx
    obtain ⟨i, hi, he⟩ := hx
    simp only [List.getElem_zip, Prod.mk.injEq] at he
    rw [← he.1, ← he.2]
  subst hxy
  simp [evSame]

set_option maxHeartbeats 8000000 in
theorem law3 (a b : List Inter) (n : Int) : Impl Try.prog 3 [.one (.sl (a.map encI)), .one (.sl (b.map encI)), .one (.int .i64 n)] (.one (.one (.bool true))) := by
  refine impl_intro Try.func3 b3 e3 r3 n3 Try.ntmps3 d3 (by simp) fun hs => ?_
  clear hs
  simp only [c3, slotsOf]
  by_cases ha : a.length ≤ 20
  · have ha' : ¬ (20 : Int) < (a.length : Int) := by omega
    by_cases hb : b.length ≤ 20
    · have hb' : ¬ (20 : Int) < (b.length : Int) := by omega
      obtain ⟨hh1, hh2⟩ := histories_short a n ha
      have n1 := normal_len _ a rfl
      have f14s := f14 a b (by omega) (by omega)
      have f15s := f15 a b (by omega) (by omega)
      rw [refSame_normal] at f15s
      have f14r := f14 a a (by omega) (by omega)
      have e1 : decide (normal a = normal a) = true := by simp
      rw [e1] at f14r
      have f16s := f16 (normal a) (normal a) (by omega) (by omega)
      rw [e1] at f16s
      have f12s := f12 a n (by omega)
      have f13s := f13 a n (by omega)
      generalize histories a n = HS at *
      generalize decide (normal a = normal b) = same at *
      repeat' first
        | with_reducible first | refine awp_seq ?_ | refine awp_reg ?_ | refine awp_block ?_ | refine awp_ret ?_ | refine awp_exit ?_ | refine awp_skip ?_ | refine awp_scp ?_ | refine scpQ_normal ?_ | refine scpQ_ret ?_ | refine scpQ_exit ?_ | refine seqQ_normal ?_ | refine seqQ_ret ?_ | refine seqQ_exit ?_ | refine blockQ_normal ?_ | refine blockQ_ret ?_ | refine blockQ_same ?_ | refine blockQ_other (by decide) ?_ | refine loopQ_ret ?_ | refine loopQ_exit ?_ | refine arun_nil ?_ | refine arunA_nil ?_ | refine arunB_nil ?_ | refine drwQ_intro ?_ | refine deadQ_nil ?_
        | ((with_reducible refine awp_cond2 (t := ?_) ?hc (fun h => ?_) (fun h => ?_))
           case hc => rfl
           all_goals (try simp [go_sem, ha', hb'] at h)
           all_goals try omega)
        | ((with_reducible first | refine arun_cons fun K hK => ?_ | refine arunA_cons fun K hK => ?_ | refine arunB_cons fun K hK => ?_ | refine awp_drw fun K hK => ?_ | refine deadQ_some fun K hK => ?_ | refine pruneQ_intro fun K hK => ?_)
           simp [go_sem, ha', hb']
           try simp (disch := omega) only [wrap_i64, okRefs, eq_self, true_and]
           first
             | refine hK _ ?_
             | refine hK _ _ ?_
             | (refine ⟨_, f11, ?_⟩; (first | refine hK _ ?_ | refine hK _ _ ?_ | refine ⟨by simp [go_sem, ha', hb'], hK _ ?_⟩ | refine ⟨by simp [go_sem, ha', hb'], hK _ _ ?_⟩ | refine ⟨by simp [go_sem, ha', hb'], by simp [go_sem, ha', hb'], hK _ _ ?_⟩))
             | (refine .inl ⟨_, f11, ?_⟩; (first | refine hK _ ?_ | refine hK _ _ ?_ | refine ⟨by simp [go_sem, ha', hb'], hK _ ?_⟩ | refine ⟨by simp [go_sem, ha', hb'], hK _ _ ?_⟩ | refine ⟨by simp [go_sem, ha', hb'], by simp [go_sem, ha', hb'], hK _ _ ?_⟩))
             | (refine .inr ⟨_, f11, ?_⟩; (first | refine hK _ ?_ | refine hK _ _ ?_ | refine ⟨by simp [go_sem, ha', hb'], hK _ ?_⟩ | refine ⟨by simp [go_sem, ha', hb'], hK _ _ ?_⟩ | refine ⟨by simp [go_sem, ha', hb'], by simp [go_sem, ha', hb'], hK _ _ ?_⟩))
             | (refine ⟨_, ⟨f11, by simp [go_sem, ha', hb']⟩, ?_⟩; (first | refine hK _ ?_ | refine hK _ _ ?_ | refine ⟨by simp [go_sem, ha', hb'], hK _ ?_⟩ | refine ⟨by simp [go_sem, ha', hb'], hK _ _ ?_⟩ | refine ⟨by simp [go_sem, ha', hb'], by simp [go_sem, ha', hb'], hK _ _ ?_⟩))
             | (refine ⟨_, fun _ => f11, ?_⟩; (first | refine hK _ ?_ | refine hK _ _ ?_ | refine ⟨by simp [go_sem, ha', hb'], hK _ ?_⟩ | refine ⟨by simp [go_sem, ha', hb'], hK _ _ ?_⟩ | refine ⟨by simp [go_sem, ha', hb'], by simp [go_sem, ha', hb'], hK _ _ ?_⟩))
             | (refine ⟨_, fun hc => ⟨hc, f11⟩, ?_⟩; (first | refine hK _ ?_ | refine hK _ _ ?_ | refine ⟨by simp [go_sem, ha', hb'], hK _ ?_⟩ | refine ⟨by simp [go_sem, ha', hb'], hK _ _ ?_⟩ | refine ⟨by simp [go_sem, ha', hb'], by simp [go_sem, ha', hb'], hK _ _ ?_⟩))
             | (refine ⟨_, fun hc => ⟨f11, by simp [go_sem, ha', hb']⟩, ?_⟩; (first | refine hK _ ?_ | refine hK _ _ ?_ | refine ⟨by simp [go_sem, ha', hb'], hK _ ?_⟩ | refine ⟨by simp [go_sem, ha', hb'], hK _ _ ?_⟩ | refine ⟨by simp [go_sem, ha', hb'], by simp [go_sem, ha', hb'], hK _ _ ?_⟩))
             | (refine ⟨_, fun hc => ⟨hc, f11, by simp [go_sem, ha', hb']⟩, ?_⟩; (first | refine hK _ ?_ | refine hK _ _ ?_ | refine ⟨by simp [go_sem, ha', hb'], hK _ ?_⟩ | refine ⟨by simp [go_sem, ha', hb'], hK _ _ ?_⟩ | refine ⟨by simp [go_sem, ha', hb'], by simp [go_sem, ha', hb'], hK _ _ ?_⟩))
             | (refine ⟨_, f12s, ?_⟩; (first | refine hK _ ?_ | refine hK _ _ ?_ | refine ⟨by simp [go_sem, ha', hb'], hK _ ?_⟩ | refine ⟨by simp [go_sem, ha', hb'], hK _ _ ?_⟩ | refine ⟨by simp [go_sem, ha', hb'], by simp [go_sem, ha', hb'], hK _ _ ?_⟩))
             | (refine .inl ⟨_, f12s, ?_⟩; (first | refine hK _ ?_ | refine hK _ _ ?_ | refine ⟨by simp [go_sem, ha', hb'], hK _ ?_⟩ | refine ⟨by simp [go_sem, ha', hb'], hK _ _ ?_⟩ | refine ⟨by simp [go_sem, ha', hb'], by simp [go_sem, ha', hb'], hK _ _ ?_⟩))
             | (refine .inr ⟨_, f12s, ?_⟩; (first | refine hK _ ?_ | refine hK _ _ ?_ | refine ⟨by simp [go_sem, ha', hb'], hK _ ?_⟩ | refine ⟨by simp [go_sem, ha', hb'], hK _ _ ?_⟩ | refine ⟨by simp [go_sem, ha', hb'], by simp [go_sem, ha', hb'], hK _ _ ?_⟩))
             | (refine ⟨_, ⟨f12s, by simp [go_sem, ha', hb']⟩, ?_⟩; (first | refine hK _ ?_ | refine hK _ _ ?_ | refine ⟨by simp [go_sem, ha', hb'], hK _ ?_⟩ | refine ⟨by simp [go_sem, ha', hb'], hK _ _ ?_⟩ | refine ⟨by simp [go_sem, ha', hb'], by simp [go_sem, ha', hb'], hK _ _ ?_⟩))
             | (refine ⟨_, fun _ => f12s, ?_⟩; (first | refine hK _ ?_ | refine hK _ _ ?_ | refine ⟨by simp [go_sem, ha', hb'], hK _ ?_⟩ | refine ⟨by simp [go_sem, ha', hb'], hK _ _ ?_⟩ | refine ⟨by simp [go_sem, ha', hb'], by simp [go_sem, ha', hb'], hK _ _ ?_⟩))
             | (refine ⟨_, fun hc => ⟨hc, f12s⟩, ?_⟩; (first | refine hK _ ?_ | refine hK _ _ ?_ | refine ⟨by simp [go_sem, ha', hb'], hK _ ?_⟩ | refine ⟨by simp [go_sem, ha', hb'], hK _ _ ?_⟩ | refine ⟨by simp [go_sem, ha', hb'], by simp [go_sem, ha', hb'], hK _ _ ?_⟩))
             | (refine ⟨_, fun hc => ⟨f12s, by simp [go_sem, ha', hb']⟩, ?_⟩; (first | refine hK _ ?_ | refine hK _ _ ?_ | refine ⟨by simp [go_sem, ha', hb'], hK _ ?_⟩ | refine ⟨by simp [go_sem, ha', hb'], hK _ _ ?_⟩ | refine ⟨by simp [go_sem, ha', hb'], by simp [go_sem, ha', hb'], hK _ _ ?_⟩))
             | (refine ⟨_, fun hc => ⟨hc, f12s, by simp [go_sem, ha', hb']⟩, ?_⟩; (first | refine hK _ ?_ | refine hK _ _ ?_ | refine ⟨by simp [go_sem, ha', hb'], hK _ ?_⟩ | refine ⟨by simp [go_sem, ha', hb'], hK _ _ ?_⟩ | refine ⟨by simp [go_sem, ha', hb'], by simp [go_sem, ha', hb'], hK _ _ ?_⟩))
             | (refine ⟨_, f13s, ?_⟩; (first | refine hK _ ?_ | refine hK _ _ ?_ | refine ⟨by simp [go_sem, ha', hb'], hK _ ?_⟩ | refine ⟨by simp [go_sem, ha', hb'], hK _ _ ?_⟩ | refine ⟨by simp [go_sem, ha', hb'], by simp [go_sem, ha', hb'], hK _ _ ?_⟩))
             | (refine .inl ⟨_, f13s, ?_⟩; (first | refine hK _ ?_ | refine hK _ _ ?_ | refine ⟨by simp [go_sem, ha', hb'], hK _ ?_⟩ | refine ⟨by simp [go_sem, ha', hb'], hK _ _ ?_⟩ | refine ⟨by simp [go_sem, ha', hb'], by simp [go_sem, ha', hb'], hK _ _ ?_⟩))
             | (refine .inr ⟨_, f13s, ?_⟩; (first | refine hK _ ?_ | refine hK _ _ ?_ | refine ⟨by simp [go_sem, ha', hb'], hK _ ?_⟩ | refine ⟨by simp [go_sem, ha', hb'], hK _ _ ?_⟩ | refine ⟨by simp [go_sem, ha', hb'], by simp [go_sem, ha', hb'], hK _ _ ?_⟩))
             | (refine ⟨_, ⟨f13s, by simp [go_sem, ha', hb']⟩, ?_⟩; (first | refine hK _ ?_ | refine hK _ _ ?_ | refine ⟨by simp [go_sem, ha', hb'], hK _ ?_⟩ | refine ⟨by simp [go_sem, ha', hb'], hK _ _ ?_⟩ | refine ⟨by simp [go_sem, ha', hb'], by simp [go_sem, ha', hb'], hK _ _ ?_⟩))
             | (refine ⟨_, fun _ => f13s, ?_⟩; (first | refine hK _ ?_ | refine hK _ _ ?_ | refine ⟨by simp [go_sem, ha', hb'], hK _ ?_⟩ | refine ⟨by simp [go_sem, ha', hb'], hK _ _ ?_⟩ | refine ⟨by simp [go_sem, ha', hb'], by simp [go_sem, ha', hb'], hK _ _ ?_⟩))
             | (refine ⟨_, fun hc => ⟨hc, f13s⟩, ?_⟩; (first | refine hK _ ?_ | refine hK _ _ ?_ | refine ⟨by simp [go_sem, ha', hb'], hK _ ?_⟩ | refine ⟨by simp [go_sem, ha', hb'], hK _ _ ?_⟩ | refine ⟨by simp [go_sem, ha', hb'], by simp [go_sem, ha', hb'], hK _ _ ?_⟩))
             | (refine ⟨_, fun hc => ⟨f13s, by simp [go_sem, ha', hb']⟩, ?_⟩; (first | refine hK _ ?_ | refine hK _ _ ?_ | refine ⟨by simp [go_sem, ha', hb'], hK _ ?_⟩ | refine ⟨by simp [go_sem, ha', hb'], hK _ _ ?_⟩ | refine ⟨by simp [go_sem, ha', hb'], by simp [go_sem, ha', hb'], hK _ _ ?_⟩))
             | (refine ⟨_, fun hc => ⟨hc, f13s, by simp [go_sem, ha', hb']⟩, ?_⟩; (first | refine hK _ ?_ | refine hK _ _ ?_ | refine ⟨by simp [go_sem, ha', hb'], hK _ ?_⟩ | refine ⟨by simp [go_sem, ha', hb'], hK _ _ ?_⟩ | refine ⟨by simp [go_sem, ha', hb'], by simp [go_sem, ha', hb'], hK _ _ ?_⟩))
             | (refine ⟨_, f14s, ?_⟩; (first | refine hK _ ?_ | refine hK _ _ ?_ | refine ⟨by simp [go_sem, ha', hb'], hK _ ?_⟩ | refine ⟨by simp [go_sem, ha', hb'], hK _ _ ?_⟩ | refine ⟨by simp [go_sem, ha', hb'], by simp [go_sem, ha', hb'], hK _ _ ?_⟩))
             | (refine .inl ⟨_, f14s, ?_⟩; (first | refine hK _ ?_ | refine hK _ _ ?_ | refine ⟨by simp [go_sem, ha', hb'], hK _ ?_⟩ | refine ⟨by simp [go_sem, ha', hb'], hK _ _ ?_⟩ | refine ⟨by simp [go_sem, ha', hb'], by simp [go_sem, ha', hb'], hK _ _ ?_⟩))
             | (refine .inr ⟨_, f14s, ?_⟩; (first | refine hK _ ?_ | refine hK _ _ ?_ | refine ⟨by simp [go_sem, ha', hb'], hK _ ?_⟩ | refine ⟨by simp [go_sem, ha', hb'], hK _ _ ?_⟩ | refine ⟨by simp [go_sem, ha', hb'], by simp [go_sem, ha', hb'], hK _ _ ?_⟩))
             | (refine ⟨_, ⟨f14s, by simp [go_sem, ha', hb']⟩, ?_⟩; (first | refine hK _ ?_ | refine hK _ _ ?_ | refine ⟨by simp [go_sem, ha', hb'], hK _ ?_⟩ | refine ⟨by simp [go_sem, ha', hb'], hK _ _ ?_⟩ | refine ⟨by simp [go_sem, ha', hb'], by simp [go_sem, ha', hb'], hK _ _ ?_⟩))
             | (refine ⟨_, fun _ => f14s, ?_⟩; (first | refine hK _ ?_ | refine hK _ _ ?_ | refine ⟨by simp [go_sem, ha', hb'], hK _ ?_⟩ | refine ⟨by simp [go_sem, ha', hb'], hK _ _ ?_⟩ | refine ⟨by simp [go_sem, ha', hb'], by simp [go_sem, ha', hb'], hK _ _ ?_⟩))
             | (refine ⟨_, fun hc => ⟨hc, f14s⟩, ?_⟩; (first | refine hK _ ?_ | refine hK _ _ ?_ | refine ⟨by simp [go_sem, ha', hb'], hK _ ?_⟩ | refine ⟨by simp [go_sem, ha', hb'], hK _ _ ?_⟩ | refine ⟨by simp [go_sem, ha', hb'], by simp [go_sem, ha', hb'], hK _ _ ?_⟩))
             | (refine ⟨_, fun hc => ⟨f14s, by simp [go_sem, ha', hb']⟩, ?_⟩; (first | refine hK _ ?_ | refine hK _ _ ?_ | refine ⟨by simp [go_sem, ha', hb'], hK _ ?_⟩ | refine ⟨by simp [go_sem, ha', hb'], hK _ _ ?_⟩ | refine ⟨by simp [go_sem, ha', hb'], by simp [go_sem, ha', hb'], hK _ _ ?_⟩))
             | (refine ⟨_, fun hc => ⟨hc, f14s, by simp [go_sem, ha', hb']⟩, ?_⟩; (first | refine hK _ ?_ | refine hK _ _ ?_ | refine ⟨by simp [go_sem, ha', hb'], hK _ ?_⟩ | refine ⟨by simp [go_sem, ha', hb'], hK _ _ ?_⟩ | refine ⟨by simp [go_sem, ha', hb'], by simp [go_sem, ha', hb'], hK _ _ ?_⟩))
             | (refine ⟨_, f15s, ?_⟩; (first | refine hK _ ?_ | refine hK _ _ ?_ | refine ⟨by simp [go_sem, ha', hb'], hK _ ?_⟩ | refine ⟨by simp [go_sem, ha', hb'], hK _ _ ?_⟩ | refine ⟨by simp [go_sem, ha', hb'], by simp [go_sem, ha', hb'], hK _ _ ?_⟩))
             | (refine .inl ⟨_, f15s, ?_⟩; (first | refine hK _ ?_ | refine hK _ _ ?_ | refine ⟨by simp [go_sem, ha', hb'], hK _ ?_⟩ | refine ⟨by simp [go_sem, ha', hb'], hK _ _ ?_⟩ | refine ⟨by simp [go_sem, ha', hb'], by simp [go_sem, ha', hb'], hK _ _ ?_⟩))
             | (refine .inr ⟨_, f15s, ?_⟩; (first | refine hK _ ?_ | refine hK _ _ ?_ | refine ⟨by simp [go_sem, ha', hb'], hK _ ?_⟩ | refine ⟨by simp [go_sem, ha', hb'], hK _ _ ?_⟩ | refine ⟨by simp [go_sem, ha', hb'], by simp [go_sem, ha', hb'], hK _ _ ?_⟩))
             | (refine ⟨_, ⟨f15s, by simp [go_sem, ha', hb']⟩, ?_⟩; (first | refine hK _ ?_ | refine hK _ _ ?_ | refine ⟨by simp [go_sem, ha', hb'], hK _ ?_⟩ | refine ⟨by simp [go_sem, ha', hb'], hK _ _ ?_⟩ | refine ⟨by simp [go_sem, ha', hb'], by simp [go_sem, ha', hb'], hK _ _ ?_⟩))
             | (refine ⟨_, fun _ => f15s, ?_⟩; (first | refine hK _ ?_ | refine hK _ _ ?_ | refine ⟨by simp [go_sem, ha', hb'], hK _ ?_⟩ | refine ⟨by simp [go_sem, ha', hb'], hK _ _ ?_⟩ | refine ⟨by simp [go_sem, ha', hb'], by simp [go_sem, ha', hb'], hK _ _ ?_⟩))
             | (refine ⟨_, fun hc => ⟨hc, f15s⟩, ?_⟩; (first | refine hK _ ?_ | refine hK _ _ ?_ | refine ⟨by simp [go_sem, ha', hb'], hK _ ?_⟩ | refine ⟨by simp [go_sem, ha', hb'], hK _ _ ?_⟩ | refine ⟨by simp [go_sem, ha', hb'], by simp [go_sem, ha', hb'], hK _ _ ?_⟩))
             | (refine ⟨_, fun hc => ⟨f15s, by simp [go_sem, ha', hb']⟩, ?_⟩; (first | refine hK _ ?_ | refine hK _ _ ?_ | refine ⟨by simp [go_sem, ha', hb'], hK _ ?_⟩ | refine ⟨by simp [go_sem, ha', hb'], hK _ _ ?_⟩ | refine ⟨by simp [go_sem, ha', hb'], by simp [go_sem, ha', hb'], hK _ _ ?_⟩))
             | (refine ⟨_, fun hc => ⟨hc, f15s, by simp [go_sem, ha', hb']⟩, ?_⟩; (first | refine hK _ ?_ | refine hK _ _ ?_ | refine ⟨by simp [go_sem, ha', hb'], hK _ ?_⟩ | refine ⟨by simp [go_sem, ha', hb'], hK _ _ ?_⟩ | refine ⟨by simp [go_sem, ha', hb'], by simp [go_sem, ha', hb'], hK _ _ ?_⟩))
             | (refine ⟨_, f14r, ?_⟩; (first | refine hK _ ?_ | refine hK _ _ ?_ | refine ⟨by simp [go_sem, ha', hb'], hK _ ?_⟩ | refine ⟨by simp [go_sem, ha', hb'], hK _ _ ?_⟩ | refine ⟨by simp [go_sem, ha', hb'], by simp [go_sem, ha', hb'], hK _ _ ?_⟩))
             | (refine .inl ⟨_, f14r, ?_⟩; (first | refine hK _ ?_ | refine hK _ _ ?_ | refine ⟨by simp [go_sem, ha', hb'], hK _ ?_⟩ | refine ⟨by simp [go_sem, ha', hb'], hK _ _ ?_⟩ | refine ⟨by simp [go_sem, ha', hb'], by simp [go_sem, ha', hb'], hK _ _ ?_⟩))
             | (refine .inr ⟨_, f14r, ?_⟩; (first | refine hK _ ?_ | refine hK _ _ ?_ | refine ⟨by simp [go_sem, ha', hb'], hK _ ?_⟩ | refine ⟨by simp [go_sem, ha', hb'], hK _ _ ?_⟩ | refine ⟨by simp [go_sem, ha', hb'], by simp [go_sem, ha', hb'], hK _ _ ?_⟩))
             | (refine ⟨_, ⟨f14r, by simp [go_sem, ha', hb']⟩, ?_⟩; (first | refine hK _ ?_ | refine hK _ _ ?_ | refine ⟨by simp [go_sem, ha', hb'], hK _ ?_⟩ | refine ⟨by simp [go_sem, ha', hb'], hK _ _ ?_⟩ | refine ⟨by simp [go_sem, ha', hb'], by simp [go_sem, ha', hb'], hK _ _ ?_⟩))
             | (refine ⟨_, fun _ => f14r, ?_⟩; (first | refine hK _ ?_ | refine hK _ _ ?_ | refine ⟨by simp [go_sem, ha', hb'], hK _ ?_⟩ | refine ⟨by simp [go_sem, ha', hb'], hK _ _ ?_⟩ | refine ⟨by simp [go_sem, ha', hb'], by simp [go_sem, ha', hb'], hK _ _ ?_⟩))
             | (refine ⟨_, fun hc => ⟨hc, f14r⟩, ?_⟩; (first | refine hK _ ?_ | refine hK _ _ ?_ | refine ⟨by simp [go_sem, ha', hb'], hK _ ?_⟩ | refine ⟨by simp [go_sem, ha', hb'], hK _ _ ?_⟩ | refine ⟨by simp [go_sem, ha', hb'], by simp [go_sem, ha', hb'], hK _ _ ?_⟩))
             | (refine ⟨_, fun hc => ⟨f14r, by simp [go_sem, ha', hb']⟩, ?_⟩; (first | refine hK _ ?_ | refine hK _ _ ?_ | refine ⟨by simp [go_sem, ha', hb'], hK _ ?_⟩ | refine ⟨by simp [go_sem, ha', hb'], hK _ _ ?_⟩ | refine ⟨by simp [go_sem, ha', hb'], by simp [go_sem, ha', hb'], hK _ _ ?_⟩))
             | (refine ⟨_, fun hc => ⟨hc, f14r, by simp [go_sem, ha', hb']⟩, ?_⟩; (first | refine hK _ ?_ | refine hK _ _ ?_ | refine ⟨by simp [go_sem, ha', hb'], hK _ ?_⟩ | refine ⟨by simp [go_sem, ha', hb'], hK _ _ ?_⟩ | refine ⟨by simp [go_sem, ha', hb'], by simp [go_sem, ha', hb'], hK _ _ ?_⟩))
             | (refine ⟨_, f17 a (by omega), ?_⟩; (first | refine hK _ ?_ | refine hK _ _ ?_ | refine ⟨by simp [go_sem, ha', hb'], hK _ ?_⟩ | refine ⟨by simp [go_sem, ha', hb'], hK _ _ ?_⟩ | refine ⟨by simp [go_sem, ha', hb'], by simp [go_sem, ha', hb'], hK _ _ ?_⟩))
             | (refine .inl ⟨_, f17 a (by omega), ?_⟩; (first | refine hK _ ?_ | refine hK _ _ ?_ | refine ⟨by simp [go_sem, ha', hb'], hK _ ?_⟩ | refine ⟨by simp [go_sem, ha', hb'], hK _ _ ?_⟩ | refine ⟨by simp [go_sem, ha', hb'], by simp [go_sem, ha', hb'], hK _ _ ?_⟩))
             | (refine .inr ⟨_, f17 a (by omega), ?_⟩; (first | refine hK _ ?_ | refine hK _ _ ?_ | refine ⟨by simp [go_sem, ha', hb'], hK _ ?_⟩ | refine ⟨by simp [go_sem, ha', hb'], hK _ _ ?_⟩ | refine ⟨by simp [go_sem, ha', hb'], by simp [go_sem, ha', hb'], hK _ _ ?_⟩))
             | (refine ⟨_, ⟨f17 a (by omega), by simp [go_sem, ha', hb']⟩, ?_⟩; (first | refine hK _ ?_ | refine hK _ _ ?_ | refine ⟨by simp [go_sem, ha', hb'], hK _ ?_⟩ | refine ⟨by simp [go_sem, ha', hb'], hK _ _ ?_⟩ | refine ⟨by simp [go_sem, ha', hb'], by simp [go_sem, ha', hb'], hK _ _ ?_⟩))
             | (refine ⟨_, fun _ => f17 a (by omega), ?_⟩; (first | refine hK _ ?_ | refine hK _ _ ?_ | refine ⟨by simp [go_sem, ha', hb'], hK _ ?_⟩ | refine ⟨by simp [go_sem, ha', hb'], hK _ _ ?_⟩ | refine ⟨by simp [go_sem, ha', hb'], by simp [go_sem, ha', hb'], hK _ _ ?_⟩))
             | (refine ⟨_, fun hc => ⟨hc, f17 a (by omega)⟩, ?_⟩; (first | refine hK _ ?_ | refine hK _ _ ?_ | refine ⟨by simp [go_sem, ha', hb'], hK _ ?_⟩ | refine ⟨by simp [go_sem, ha', hb'], hK _ _ ?_⟩ | refine ⟨by simp [go_sem, ha', hb'], by simp [go_sem, ha', hb'], hK _ _ ?_⟩))
             | (refine ⟨_, fun hc => ⟨f17 a (by omega), by simp [go_sem, ha', hb']⟩, ?_⟩; (first | refine hK _ ?_ | refine hK _ _ ?_ | refine ⟨by simp [go_sem, ha', hb'], hK _ ?_⟩ | refine ⟨by simp [go_sem, ha', hb'], hK _ _ ?_⟩ | refine ⟨by simp [go_sem, ha', hb'], by simp [go_sem, ha', hb'], hK _ _ ?_⟩))
             | (refine ⟨_, fun hc => ⟨hc, f17 a (by omega), by simp [go_sem, ha', hb']⟩, ?_⟩; (first | refine hK _ ?_ | refine hK _ _ ?_ | refine ⟨by simp [go_sem, ha', hb'], hK _ ?_⟩ | refine ⟨by simp [go_sem, ha', hb'], hK _ _ ?_⟩ | refine ⟨by simp [go_sem, ha', hb'], by simp [go_sem, ha', hb'], hK _ _ ?_⟩))
             | (refine ⟨_, f18 a (by omega), ?_⟩; (first | refine hK _ ?_ | refine hK _ _ ?_ | refine ⟨by simp [go_sem, ha', hb'], hK _ ?_⟩ | refine ⟨by simp [go_sem, ha', hb'], hK _ _ ?_⟩ | refine ⟨by simp [go_sem, ha', hb'], by simp [go_sem, ha', hb'], hK _ _ ?_⟩))
             | (refine .inl ⟨_, f18 a (by omega), ?_⟩; (first | refine hK _ ?_ | refine hK _ _ ?_ | refine ⟨by simp [go_sem, ha', hb'], hK _ ?_⟩ | refine ⟨by simp [go_sem, ha', hb'], hK _ _ ?_⟩ | refine ⟨by simp [go_sem, ha', hb'], by simp [go_sem, ha', hb'], hK _ _ ?_⟩))
             | (refine .inr ⟨_, f18 a (by omega), ?_⟩; (first | refine hK _ ?_ | refine hK _ _ ?_ | refine ⟨by simp [go_sem, ha', hb'], hK _ ?_⟩ | refine ⟨by simp [go_sem, ha', hb'], hK _ _ ?_⟩ | refine ⟨by simp [go_sem, ha', hb'], by simp [go_sem, ha', hb'], hK _ _ ?_⟩))
             | (refine ⟨_, ⟨f18 a (by omega), by simp [go_sem, ha', hb']⟩, ?_⟩; (first | refine hK _ ?_ | refine hK _ _ ?_ | refine ⟨by simp [go_sem, ha', hb'], hK _ ?_⟩ | refine ⟨by simp [go_sem, ha', hb'], hK _ _ ?_⟩ | refine ⟨by simp [go_sem, ha', hb'], by simp [go_sem, ha', hb'], hK _ _ ?_⟩))
             | (refine ⟨_, fun _ => f18 a (by omega), ?_⟩; (first | refine hK _ ?_ | refine hK _ _ ?_ | refine ⟨by simp [go_sem, ha', hb'], hK _ ?_⟩ | refine ⟨by simp [go_sem, ha', hb'], hK _ _ ?_⟩ | refine ⟨by simp [go_sem, ha', hb'], by simp [go_sem, ha', hb'], hK _ _ ?_⟩))
             | (refine ⟨_, fun hc => ⟨hc, f18 a (by omega)⟩, ?_⟩; (first | refine hK _ ?_ | refine hK _ _ ?_ | refine ⟨by simp [go_sem, ha', hb'], hK _ ?_⟩ | refine ⟨by simp [go_sem, ha', hb'], hK _ _ ?_⟩ | refine ⟨by simp [go_sem, ha', hb'], by simp [go_sem, ha', hb'], hK _ _ ?_⟩))
             | (refine ⟨_, fun hc => ⟨f18 a (by omega), by simp [go_sem, ha', hb']⟩, ?_⟩; (first | refine hK _ ?_ | refine hK _ _ ?_ | refine ⟨by simp [go_sem, ha', hb'], hK _ ?_⟩ | refine ⟨by simp [go_sem, ha', hb'], hK _ _ ?_⟩ | refine ⟨by simp [go_sem, ha', hb'], by simp [go_sem, ha', hb'], hK _ _ ?_⟩))
             | (refine ⟨_, fun hc => ⟨hc, f18 a (by omega), by simp [go_sem, ha', hb']⟩, ?_⟩; (first | refine hK _ ?_ | refine hK _ _ ?_ | refine ⟨by simp [go_sem, ha', hb'], hK _ ?_⟩ | refine ⟨by simp [go_sem, ha', hb'], hK _ _ ?_⟩ | refine ⟨by simp [go_sem, ha', hb'], by simp [go_sem, ha', hb'], hK _ _ ?_⟩))
             | (refine ⟨_, f16s, ?_⟩; (first | refine hK _ ?_ | refine hK _ _ ?_ | refine ⟨by simp [go_sem, ha', hb'], hK _ ?_⟩ | refine ⟨by simp [go_sem, ha', hb'], hK _ _ ?_⟩ | refine ⟨by simp [go_sem, ha', hb'], by simp [go_sem, ha', hb'], hK _ _ ?_⟩))
             | (refine .inl ⟨_, f16s, ?_⟩; (first | refine hK _ ?_ | refine hK _ _ ?_ | refine ⟨by simp [go_sem, ha', hb'], hK _ ?_⟩ | refine ⟨by simp [go_sem, ha', hb'], hK _ _ ?_⟩ | refine ⟨by simp [go_sem, ha', hb'], by simp [go_sem, ha', hb'], hK _ _ ?_⟩))
             | (refine .inr ⟨_, f16s, ?_⟩; (first | refine hK _ ?_ | refine hK _ _ ?_ | refine ⟨by simp [go_sem, ha', hb'], hK _ ?_⟩ | refine ⟨by simp [go_sem, ha', hb'], hK _ _ ?_⟩ | refine ⟨by simp [go_sem, ha', hb'], by simp [go_sem, ha', hb'], hK _ _ ?_⟩))
             | (refine ⟨_, ⟨f16s, by simp [go_sem, ha', hb']⟩, ?_⟩; (first | refine hK _ ?_ | refine hK _ _ ?_ | refine ⟨by simp [go_sem, ha', hb'], hK _ ?_⟩ | refine ⟨by simp [go_sem, ha', hb'], hK _ _ ?_⟩ | refine ⟨by simp [go_sem, ha', hb'], by simp [go_sem, ha', hb'], hK _ _ ?_⟩))
             | (refine ⟨_, fun _ => f16s, ?_⟩; (first | refine hK _ ?_ | refine hK _ _ ?_ | refine ⟨by simp [go_sem, ha', hb'], hK _ ?_⟩ | refine ⟨by simp [go_sem, ha', hb'], hK _ _ ?_⟩ | refine ⟨by simp [go_sem, ha', hb'], by simp [go_sem, ha', hb'], hK _ _ ?_⟩))
             | (refine ⟨_, fun hc => ⟨hc, f16s⟩, ?_⟩; (first | refine hK _ ?_ | refine hK _ _ ?_ | refine ⟨by simp [go_sem, ha', hb'], hK _ ?_⟩ | refine ⟨by simp [go_sem, ha', hb'], hK _ _ ?_⟩ | refine ⟨by simp [go_sem, ha', hb'], by simp [go_sem, ha', hb'], hK _ _ ?_⟩))
             | (refine ⟨_, fun hc => ⟨f16s, by simp [go_sem, ha', hb']⟩, ?_⟩; (first | refine hK _ ?_ | refine hK _ _ ?_ | refine ⟨by simp [go_sem, ha', hb'], hK _ ?_⟩ | refine ⟨by simp [go_sem, ha', hb'], hK _ _ ?_⟩ | refine ⟨by simp [go_sem, ha', hb'], by simp [go_sem, ha', hb'], hK _ _ ?_⟩))
             | (refine ⟨_, fun hc => ⟨hc, f16s, by simp [go_sem, ha', hb']⟩, ?_⟩; (first | refine hK _ ?_ | refine hK _ _ ?_ | refine ⟨by simp [go_sem, ha', hb'], hK _ ?_⟩ | refine ⟨by simp [go_sem, ha', hb'], hK _ _ ?_⟩ | refine ⟨by simp [go_sem, ha', hb'], by simp [go_sem, ha', hb'], hK _ _ ?_⟩))
             | refine ⟨.one (.one (.bool false)), by simp [go_sem, ha', hb'], hK _ _ ?_⟩
             | refine ⟨by (first | (simp [appendOk, flatEls, ha', hb']; done) | (simp [appendOk, flatEls, ha', hb']; omega)), hK _ ?_⟩
             | refine ⟨hK _ ?_, fun h => hK _ ?_⟩
             | refine ⟨by omega, hK _ ?_⟩
             | refine ⟨by omega, hK _ _ ?_⟩
             | refine ⟨?_, hK _ ?_⟩
             | refine ⟨?_, hK _ _ ?_⟩
           all_goals clear hK K)
      refine awp_loop (fun m e => ∃ i, i + m = HS.length ∧ e = [(61, .sv (.one (.int .i64 (i : Nat)))), (60, .sv (.one (.int .i64 HS.length))), (7, .sv (.one (.ow 1 (HS.map encO)))), (8, .sv (.one (.ow 1 (HS.map encH)))), (6, .sv (.one (.bool false))), (0, .sv (.one (.sl (a.map encI)))), (1, .sv (.one (.sl (b.map encI))))]) HS.length _ ⟨0, by simp, rfl⟩ (by simp [go_sem]) ?_
      rintro m e ⟨i, hi, rfl⟩
      by_cases hlt : i < HS.length
      · have hl1 := hh2 HS[i] (List.getElem_mem hlt)
        have f19s := f19 HS[i] HS[i] hl1 hl1
        rw [same_refl] at f19s
        repeat' first
          | with_reducible first | refine awp_seq ?_ | refine awp_reg ?_ | refine awp_block ?_ | refine awp_ret ?_ | refine awp_exit ?_ | refine awp_skip ?_ | refine awp_scp ?_ | refine scpQ_normal ?_ | refine scpQ_ret ?_ | refine scpQ_exit ?_ | refine seqQ_normal ?_ | refine seqQ_ret ?_ | refine seqQ_exit ?_ | refine blockQ_normal ?_ | refine blockQ_ret ?_ | refine blockQ_same ?_ | refine blockQ_other (by decide) ?_ | refine loopQ_ret ?_ | refine loopQ_exit ?_ | refine arun_nil ?_ | refine arunA_nil ?_ | refine arunB_nil ?_ | refine drwQ_intro ?_ | refine deadQ_nil ?_
          | ((with_reducible refine awp_cond2 (t := ?_) ?hc (fun h => ?_) (fun h => ?_))
             case hc => rfl
             all_goals (try simp [go_sem, hlt, encO, encH] at h)
             all_goals try omega)
          | ((with_reducible first | refine arun_cons fun K hK => ?_ | refine arunA_cons fun K hK => ?_ | refine arunB_cons fun K hK => ?_ | refine awp_drw fun K hK => ?_ | refine deadQ_some fun K hK => ?_ | refine pruneQ_intro fun K hK => ?_)
             simp [go_sem, hlt, encO, encH]
             try simp (disch := omega) only [wrap_i64, okRefs, eq_self, true_and]
             first
               | refine hK _ ?_
               | refine hK _ _ ?_
               | (refine ⟨_, f19s, ?_⟩; (first | refine hK _ ?_ | refine hK _ _ ?_ | refine ⟨by simp [go_sem, hlt, encO, encH], hK _ ?_⟩ | refine ⟨by simp [go_sem, hlt, encO, encH], hK _ _ ?_⟩ | refine ⟨by simp [go_sem, hlt, encO, encH], by simp [go_sem, hlt, encO, encH], hK _ _ ?_⟩))
               | (refine .inl ⟨_, f19s, ?_⟩; (first | refine hK _ ?_ | refine hK _ _ ?_ | refine ⟨by simp [go_sem, hlt, encO, encH], hK _ ?_⟩ | refine ⟨by simp [go_sem, hlt, encO, encH], hK _ _ ?_⟩ | refine ⟨by simp [go_sem, hlt, encO, encH], by simp [go_sem, hlt, encO, encH], hK _ _ ?_⟩))
               | (refine .inr ⟨_, f19s, ?_⟩; (first | refine hK _ ?_ | refine hK _ _ ?_ | refine ⟨by simp [go_sem, hlt, encO, encH], hK _ ?_⟩ | refine ⟨by simp [go_sem, hlt, encO, encH], hK _ _ ?_⟩ | refine ⟨by simp [go_sem, hlt, encO, encH], by simp [go_sem, hlt, encO, encH], hK _ _ ?_⟩))
               | (refine ⟨_, ⟨f19s, by simp [go_sem, hlt, encO, encH]⟩, ?_⟩; (first | refine hK _ ?_ | refine hK _ _ ?_ | refine ⟨by simp [go_sem, hlt, encO, encH], hK _ ?_⟩ | refine ⟨by simp [go_sem, hlt, encO, encH], hK _ _ ?_⟩ | refine ⟨by simp [go_sem, hlt, encO, encH], by simp [go_sem, hlt, encO, encH], hK _ _ ?_⟩))
               | (refine ⟨_, fun _ => f19s, ?_⟩; (first | refine hK _ ?_ | refine hK _ _ ?_ | refine ⟨by simp [go_sem, hlt, encO, encH], hK _ ?_⟩ | refine ⟨by simp [go_sem, hlt, encO, encH], hK _ _ ?_⟩ | refine ⟨by simp [go_sem, hlt, encO, encH], by simp [go_sem, hlt, encO, encH], hK _ _ ?_⟩))
               | (refine ⟨_, fun hc => ⟨hc, f19s⟩, ?_⟩; (first | refine hK _ ?_ | refine hK _ _ ?_ | refine ⟨by simp [go_sem, hlt, encO, encH], hK _ ?_⟩ | refine ⟨by simp [go_sem, hlt, encO, encH], hK _ _ ?_⟩ | refine ⟨by simp [go_sem, hlt, encO, encH], by simp [go_sem, hlt, encO, encH], hK _ _ ?_⟩))
               | (refine ⟨_, fun hc => ⟨f19s, by simp [go_sem, hlt, encO, encH]⟩, ?_⟩; (first | refine hK _ ?_ | refine hK _ _ ?_ | refine ⟨by simp [go_sem, hlt, encO, encH], hK _ ?_⟩ | refine ⟨by simp [go_sem, hlt, encO, encH], hK _ _ ?_⟩ | refine ⟨by simp [go_sem, hlt, encO, encH], by simp [go_sem, hlt, encO, encH], hK _ _ ?_⟩))
               | (refine ⟨_, fun hc => ⟨hc, f19s, by simp [go_sem, hlt, encO, encH]⟩, ?_⟩; (first | refine hK _ ?_ | refine hK _ _ ?_ | refine ⟨by simp [go_sem, hlt, encO, encH], hK _ ?_⟩ | refine ⟨by simp [go_sem, hlt, encO, encH], hK _ _ ?_⟩ | refine ⟨by simp [go_sem, hlt, encO, encH], by simp [go_sem, hlt, encO, encH], hK _ _ ?_⟩))
               | refine ⟨.one (.one (.bool false)), by simp [go_sem, hlt, encO, encH], hK _ _ ?_⟩
               | refine ⟨by (first | (simp [appendOk, flatEls, hlt, encO, encH]; done) | (simp [appendOk, flatEls, hlt, encO, encH]; omega)), hK _ ?_⟩
               | refine ⟨hK _ ?_, fun h => hK _ ?_⟩
               | refine ⟨by omega, hK _ ?_⟩
               | refine ⟨by omega, hK _ _ ?_⟩
               | refine ⟨?_, hK _ ?_⟩
               | refine ⟨?_, hK _ _ ?_⟩
             all_goals clear hK K)
        refine loopQ_normal (m - 1) _ (by omega) ⟨i + 1, by omega, rfl⟩ ?_
        simp [go_sem, encO, encH]
      · skip
        repeat' first
          | with_reducible first | refine awp_seq ?_ | refine awp_reg ?_ | refine awp_block ?_ | refine awp_ret ?_ | refine awp_exit ?_ | refine awp_skip ?_ | refine awp_scp ?_ | refine scpQ_normal ?_ | refine scpQ_ret ?_ | refine scpQ_exit ?_ | refine seqQ_normal ?_ | refine seqQ_ret ?_ | refine seqQ_exit ?_ | refine blockQ_normal ?_ | refine blockQ_ret ?_ | refine blockQ_same ?_ | refine blockQ_other (by decide) ?_ | refine loopQ_ret ?_ | refine loopQ_exit ?_ | refine arun_nil ?_ | refine arunA_nil ?_ | refine arunB_nil ?_ | refine drwQ_intro ?_ | refine deadQ_nil ?_
          | ((with_reducible refine awp_cond2 (t := ?_) ?hc (fun h => ?_) (fun h => ?_))
             case hc => rfl
             all_goals (try simp [go_sem, hlt] at h)
             all_goals try omega)
          | ((with_reducible first | refine arun_cons fun K hK => ?_ | refine arunA_cons fun K hK => ?_ | refine arunB_cons fun K hK => ?_ | refine awp_drw fun K hK => ?_ | refine deadQ_some fun K hK => ?_ | refine pruneQ_intro fun K hK => ?_)
             simp [go_sem, hlt]
             try simp (disch := omega) only [wrap_i64, okRefs, eq_self, true_and]
             first
               | refine hK _ ?_
               | refine hK _ _ ?_
               | refine ⟨by (first | (simp [appendOk, flatEls, hlt]; done) | (simp [appendOk, flatEls, hlt]; omega)), hK _ ?_⟩
               | refine ⟨hK _ ?_, fun h => hK _ ?_⟩
               | refine ⟨by omega, hK _ ?_⟩
               | refine ⟨by omega, hK _ _ ?_⟩
               | refine ⟨?_, hK _ ?_⟩
               | refine ⟨?_, hK _ _ ?_⟩
             all_goals clear hK K)
        refine awp_loop (fun m e => ∃ i, i + m = a.length ∧ e = [(77, .sv (.one (.int .i64 (i : Nat)))), (76, .sv (.one (.int .i64 a.length))), (0, .sv (.one (.sl (a.map encI)))), (1, .sv (.one (.sl (b.map encI))))]) a.length _ ⟨0, by simp, rfl⟩ (by simp [go_sem]) ?_
        rintro m2 e ⟨i2, hi2, rfl⟩
        by_cases hlt2 : i2 < a.length
        · skip
          repeat' first
            | with_reducible first | refine awp_seq ?_ | refine awp_reg ?_ | refine awp_block ?_ | refine awp_ret ?_ | refine awp_exit ?_ | refine awp_skip ?_ | refine awp_scp ?_ | refine scpQ_normal ?_ | refine scpQ_ret ?_ | refine scpQ_exit ?_ | refine seqQ_normal ?_ | refine seqQ_ret ?_ | refine seqQ_exit ?_ | refine blockQ_normal ?_ | refine blockQ_ret ?_ | refine blockQ_same ?_ | refine blockQ_other (by decide) ?_ | refine loopQ_ret ?_ | refine loopQ_exit ?_ | refine arun_nil ?_ | refine arunA_nil ?_ | refine arunB_nil ?_ | refine drwQ_intro ?_ | refine deadQ_nil ?_
            | ((with_reducible refine awp_cond2 (t := ?_) ?hc (fun h => ?_) (fun h => ?_))
               case hc => rfl
               all_goals (try simp [go_sem, hlt2] at h)
               all_goals try omega)
            | ((with_reducible first | refine arun_cons fun K hK => ?_ | refine arunA_cons fun K hK => ?_ | refine arunB_cons fun K hK => ?_ | refine awp_drw fun K hK => ?_ | refine deadQ_some fun K hK => ?_ | refine pruneQ_intro fun K hK => ?_)
               simp [go_sem, hlt2]
               try simp (disch := omega) only [wrap_i64, okRefs, eq_self, true_and]
               first
                 | refine hK _ ?_
                 | refine hK _ _ ?_
                 | refine ⟨by (first | (simp [appendOk, flatEls, hlt2]; done) | (simp [appendOk, flatEls, hlt2]; omega)), hK _ ?_⟩
                 | refine ⟨hK _ ?_, fun h => hK _ ?_⟩
                 | refine ⟨by omega, hK _ ?_⟩
                 | refine ⟨by omega, hK _ _ ?_⟩
                 | refine ⟨?_, hK _ ?_⟩
                 | refine ⟨?_, hK _ _ ?_⟩
               all_goals clear hK K)
          refine awp_loop (fun m e => ∃ j, j + m = b.length ∧ e = [(82, .sv (.one (.int .i64 (j : Nat)))), (81, .sv (.one (.int .i64 b.length))), (10, .sv (.one (.int .i64 i2))), (77, .sv (.one (.int .i64 (i2 : Nat)))), (76, .sv (.one (.int .i64 a.length))), (0, .sv (.one (.sl (a.map encI)))), (1, .sv (.one (.sl (b.map encI))))]) b.length _ ⟨0, by simp, rfl⟩ (by simp [go_sem]) ?_
          rintro m3 e ⟨j, hj, rfl⟩
          by_cases hlt3 : j < b.length
          · skip
            repeat' first
              | with_reducible first | refine awp_seq ?_ | refine awp_reg ?_ | refine awp_block ?_ | refine awp_ret ?_ | refine awp_exit ?_ | refine awp_skip ?_ | refine awp_scp ?_ | refine scpQ_normal ?_ | refine scpQ_ret ?_ | refine scpQ_exit ?_ | refine seqQ_normal ?_ | refine seqQ_ret ?_ | refine seqQ_exit ?_ | refine blockQ_normal ?_ | refine blockQ_ret ?_ | refine blockQ_same ?_ | refine blockQ_other (by decide) ?_ | refine loopQ_ret ?_ | refine loopQ_exit ?_ | refine arun_nil ?_ | refine arunA_nil ?_ | refine arunB_nil ?_ | refine drwQ_intro ?_ | refine deadQ_nil ?_
              | ((with_reducible refine awp_cond2 (t := ?_) ?hc (fun h => ?_) (fun h => ?_))
                 case hc => rfl
                 all_goals (try simp [go_sem, hlt2, hlt3, encI] at h)
                 all_goals try omega)
              | ((with_reducible first | refine arun_cons fun K hK => ?_ | refine arunA_cons fun K hK => ?_ | refine arunB_cons fun K hK => ?_ | refine awp_drw fun K hK => ?_ | refine deadQ_some fun K hK => ?_ | refine pruneQ_intro fun K hK => ?_)
                 simp [go_sem, hlt2, hlt3, encI]
                 try simp (disch := omega) only [wrap_i64, okRefs, eq_self, true_and]
                 first
                   | refine hK _ ?_
                   | refine hK _ _ ?_
                   | (refine ⟨_, f20 _ _, ?_⟩; (first | refine hK _ ?_ | refine hK _ _ ?_ | refine ⟨by simp [go_sem, hlt2, hlt3, encI], hK _ ?_⟩ | refine ⟨by simp [go_sem, hlt2, hlt3, encI], hK _ _ ?_⟩ | refine ⟨by simp [go_sem, hlt2, hlt3, encI], by simp [go_sem, hlt2, hlt3, encI], hK _ _ ?_⟩))
                   | (refine .inl ⟨_, f20 _ _, ?_⟩; (first | refine hK _ ?_ | refine hK _ _ ?_ | refine ⟨by simp [go_sem, hlt2, hlt3, encI], hK _ ?_⟩ | refine ⟨by simp [go_sem, hlt2, hlt3, encI], hK _ _ ?_⟩ | refine ⟨by simp [go_sem, hlt2, hlt3, encI], by simp [go_sem, hlt2, hlt3, encI], hK _ _ ?_⟩))
                   | (refine .inr ⟨_, f20 _ _, ?_⟩; (first | refine hK _ ?_ | refine hK _ _ ?_ | refine ⟨by simp [go_sem, hlt2, hlt3, encI], hK _ ?_⟩ | refine ⟨by simp [go_sem, hlt2, hlt3, encI], hK _ _ ?_⟩ | refine ⟨by simp [go_sem, hlt2, hlt3, encI], by simp [go_sem, hlt2, hlt3, encI], hK _ _ ?_⟩))
                   | (refine ⟨_, ⟨f20 _ _, by simp [go_sem, hlt2, hlt3, encI]⟩, ?_⟩; (first | refine hK _ ?_ | refine hK _ _ ?_ | refine ⟨by simp [go_sem, hlt2, hlt3, encI], hK _ ?_⟩ | refine ⟨by simp [go_sem, hlt2, hlt3, encI], hK _ _ ?_⟩ | refine ⟨by simp [go_sem, hlt2, hlt3, encI], by simp [go_sem, hlt2, hlt3, encI], hK _ _ ?_⟩))
                   | (refine ⟨_, fun _ => f20 _ _, ?_⟩; (first | refine hK _ ?_ | refine hK _ _ ?_ | refine ⟨by simp [go_sem, hlt2, hlt3, encI], hK _ ?_⟩ | refine ⟨by simp [go_sem, hlt2, hlt3, encI], hK _ _ ?_⟩ | refine ⟨by simp [go_sem, hlt2, hlt3, encI], by simp [go_sem, hlt2, hlt3, encI], hK _ _ ?_⟩))
                   | (refine ⟨_, fun hc => ⟨hc, f20 _ _⟩, ?_⟩; (first | refine hK _ ?_ | refine hK _ _ ?_ | refine ⟨by simp [go_sem, hlt2, hlt3, encI], hK _ ?_⟩ | refine ⟨by simp [go_sem, hlt2, hlt3, encI], hK _ _ ?_⟩ | refine ⟨by simp [go_sem, hlt2, hlt3, encI], by simp [go_sem, hlt2, hlt3, encI], hK _ _ ?_⟩))
                   | (refine ⟨_, fun hc => ⟨f20 _ _, by simp [go_sem, hlt2, hlt3, encI]⟩, ?_⟩; (first | refine hK _ ?_ | refine hK _ _ ?_ | refine ⟨by simp [go_sem, hlt2, hlt3, encI], hK _ ?_⟩ | refine ⟨by simp [go_sem, hlt2, hlt3, encI], hK _ _ ?_⟩ | refine ⟨by simp [go_sem, hlt2, hlt3, encI], by simp [go_sem, hlt2, hlt3, encI], hK _ _ ?_⟩))
                   | (refine ⟨_, fun hc => ⟨hc, f20 _ _, by simp [go_sem, hlt2, hlt3, encI]⟩, ?_⟩; (first | refine hK _ ?_ | refine hK _ _ ?_ | refine ⟨by simp [go_sem, hlt2, hlt3, encI], hK _ ?_⟩ | refine ⟨by simp [go_sem, hlt2, hlt3, encI], hK _ _ ?_⟩ | refine ⟨by simp [go_sem, hlt2, hlt3, encI], by simp [go_sem, hlt2, hlt3, encI], hK _ _ ?_⟩))
                   | (refine ⟨_, f21 _ _, ?_⟩; (first | refine hK _ ?_ | refine hK _ _ ?_ | refine ⟨by simp [go_sem, hlt2, hlt3, encI], hK _ ?_⟩ | refine ⟨by simp [go_sem, hlt2, hlt3, encI], hK _ _ ?_⟩ | refine ⟨by simp [go_sem, hlt2, hlt3, encI], by simp [go_sem, hlt2, hlt3, encI], hK _ _ ?_⟩))
                   | (refine .inl ⟨_, f21 _ _, ?_⟩; (first | refine hK _ ?_ | refine hK _ _ ?_ | refine ⟨by simp [go_sem, hlt2, hlt3, encI], hK _ ?_⟩ | refine ⟨by simp [go_sem, hlt2, hlt3, encI], hK _ _ ?_⟩ | refine ⟨by simp [go_sem, hlt2, hlt3, encI], by simp [go_sem, hlt2, hlt3, encI], hK _ _ ?_⟩))
                   | (refine .inr ⟨_, f21 _ _, ?_⟩; (first | refine hK _ ?_ | refine hK _ _ ?_ | refine ⟨by simp [go_sem, hlt2, hlt3, encI], hK _ ?_⟩ | refine ⟨by simp [go_sem, hlt2, hlt3, encI], hK _ _ ?_⟩ | refine ⟨by simp [go_sem, hlt2, hlt3, encI], by simp [go_sem, hlt2, hlt3, encI], hK _ _ ?_⟩))
                   | (refine ⟨_, ⟨f21 _ _, by simp [go_sem, hlt2, hlt3, encI]⟩, ?_⟩; (first | refine hK _ ?_ | refine hK _ _ ?_ | refine ⟨by simp [go_sem, hlt2, hlt3, encI], hK _ ?_⟩ | refine ⟨by simp [go_sem, hlt2, hlt3, encI], hK _ _ ?_⟩ | refine ⟨by simp [go_sem, hlt2, hlt3, encI], by simp [go_sem, hlt2, hlt3, encI], hK _ _ ?_⟩))
                   | (refine ⟨_, fun _ => f21 _ _, ?_⟩; (first | refine hK _ ?_ | refine hK _ _ ?_ | refine ⟨by simp [go_sem, hlt2, hlt3, encI], hK _ ?_⟩ | refine ⟨by simp [go_sem, hlt2, hlt3, encI], hK _ _ ?_⟩ | refine ⟨by simp [go_sem, hlt2, hlt3, encI], by simp [go_sem, hlt2, hlt3, encI], hK _ _ ?_⟩))
                   | (refine ⟨_, fun hc => ⟨hc, f21 _ _⟩, ?_⟩; (first | refine hK _ ?_ | refine hK _ _ ?_ | refine ⟨by simp [go_sem, hlt2, hlt3, encI], hK _ ?_⟩ | refine ⟨by simp [go_sem, hlt2, hlt3, encI], hK _ _ ?_⟩ | refine ⟨by simp [go_sem, hlt2, hlt3, encI], by simp [go_sem, hlt2, hlt3, encI], hK _ _ ?_⟩))
                   | (refine ⟨_, fun hc => ⟨f21 _ _, by simp [go_sem, hlt2, hlt3, encI]⟩, ?_⟩; (first | refine hK _ ?_ | refine hK _ _ ?_ | refine ⟨by simp [go_sem, hlt2, hlt3, encI], hK _ ?_⟩ | refine ⟨by simp [go_sem, hlt2, hlt3, encI], hK _ _ ?_⟩ | refine ⟨by simp [go_sem, hlt2, hlt3, encI], by simp [go_sem, hlt2, hlt3, encI], hK _ _ ?_⟩))
                   | (refine ⟨_, fun hc => ⟨hc, f21 _ _, by simp [go_sem, hlt2, hlt3, encI]⟩, ?_⟩; (first | refine hK _ ?_ | refine hK _ _ ?_ | refine ⟨by simp [go_sem, hlt2, hlt3, encI], hK _ ?_⟩ | refine ⟨by simp [go_sem, hlt2, hlt3, encI], hK _ _ ?_⟩ | refine ⟨by simp [go_sem, hlt2, hlt3, encI], by simp [go_sem, hlt2, hlt3, encI], hK _ _ ?_⟩))
                   | refine ⟨.one (.one (.bool false)), by simp [go_sem, hlt2, hlt3, encI], hK _ _ ?_⟩
                   | refine ⟨by (first | (simp [appendOk, flatEls, hlt2, hlt3, encI]; done) | (simp [appendOk, flatEls, hlt2, hlt3, encI]; omega)), hK _ ?_⟩
                   | refine ⟨hK _ ?_, fun h => hK _ ?_⟩
                   | refine ⟨by omega, hK _ ?_⟩
                   | refine ⟨by omega, hK _ _ ?_⟩
                   | refine ⟨?_, hK _ ?_⟩
                   | refine ⟨?_, hK _ _ ?_⟩
                 all_goals clear hK K)
            refine loopQ_normal (m3 - 1) _ (by omega) ⟨j + 1, by omega, rfl⟩ ?_
            simp [go_sem]
          · skip
            repeat' first
              | with_reducible first | refine awp_seq ?_ | refine awp_reg ?_ | refine awp_block ?_ | refine awp_ret ?_ | refine awp_exit ?_ | refine awp_skip ?_ | refine awp_scp ?_ | refine scpQ_normal ?_ | refine scpQ_ret ?_ | refine scpQ_exit ?_ | refine seqQ_normal ?_ | refine seqQ_ret ?_ | refine seqQ_exit ?_ | refine blockQ_normal ?_ | refine blockQ_ret ?_ | refine blockQ_same ?_ | refine blockQ_other (by decide) ?_ | refine loopQ_ret ?_ | refine loopQ_exit ?_ | refine arun_nil ?_ | refine arunA_nil ?_ | refine arunB_nil ?_ | refine drwQ_intro ?_ | refine deadQ_nil ?_
              | ((with_reducible refine awp_cond2 (t := ?_) ?hc (fun h => ?_) (fun h => ?_))
                 case hc => rfl
                 all_goals (try simp [go_sem, hlt3] at h)
                 all_goals try omega)
              | ((with_reducible first | refine arun_cons fun K hK => ?_ | refine arunA_cons fun K hK => ?_ | refine arunB_cons fun K hK => ?_ | refine awp_drw fun K hK => ?_ | refine deadQ_some fun K hK => ?_ | refine pruneQ_intro fun K hK => ?_)
                 simp [go_sem, hlt3]
                 try simp (disch := omega) only [wrap_i64, okRefs, eq_self, true_and]
                 first
                   | refine hK _ ?_
                   | refine hK _ _ ?_
                   | refine ⟨by (first | (simp [appendOk, flatEls, hlt3]; done) | (simp [appendOk, flatEls, hlt3]; omega)), hK _ ?_⟩
                   | refine ⟨hK _ ?_, fun h => hK _ ?_⟩
                   | refine ⟨by omega, hK _ ?_⟩
                   | refine ⟨by omega, hK _ _ ?_⟩
                   | refine ⟨?_, hK _ ?_⟩
                   | refine ⟨?_, hK _ _ ?_⟩
                 all_goals clear hK K)
            refine loopQ_normal (m2 - 1) _ (by omega) ⟨i2 + 1, by omega, rfl⟩ ?_
            simp [go_sem]
        · skip
          repeat' first
            | with_reducible first | refine awp_seq ?_ | refine awp_reg ?_ | refine awp_block ?_ | refine awp_ret ?_ | refine awp_exit ?_ | refine awp_skip ?_ | refine awp_scp ?_ | refine scpQ_normal ?_ | refine scpQ_ret ?_ | refine scpQ_exit ?_ | refine seqQ_normal ?_ | refine seqQ_ret ?_ | refine seqQ_exit ?_ | refine blockQ_normal ?_ | refine blockQ_ret ?_ | refine blockQ_same ?_ | refine blockQ_other (by decide) ?_ | refine loopQ_ret ?_ | refine loopQ_exit ?_ | refine arun_nil ?_ | refine arunA_nil ?_ | refine arunB_nil ?_ | refine drwQ_intro ?_ | refine deadQ_nil ?_
            | ((with_reducible refine awp_cond2 (t := ?_) ?hc (fun h => ?_) (fun h => ?_))
               case hc => rfl
               all_goals (try simp [go_sem, hlt2] at h)
               all_goals try omega)
            | ((with_reducible first | refine arun_cons fun K hK => ?_ | refine arunA_cons fun K hK => ?_ | refine arunB_cons fun K hK => ?_ | refine awp_drw fun K hK => ?_ | refine deadQ_some fun K hK => ?_ | refine pruneQ_intro fun K hK => ?_)
               simp [go_sem, hlt2]
               try simp (disch := omega) only [wrap_i64, okRefs, eq_self, true_and]
               first
                 | refine hK _ ?_
                 | refine hK _ _ ?_
                 | refine ⟨by (first | (simp [appendOk, flatEls, hlt2]; done) | (simp [appendOk, flatEls, hlt2]; omega)), hK _ ?_⟩
                 | refine ⟨hK _ ?_, fun h => hK _ ?_⟩
                 | refine ⟨by omega, hK _ ?_⟩
                 | refine ⟨by omega, hK _ _ ?_⟩
                 | refine ⟨?_, hK _ ?_⟩
                 | refine ⟨?_, hK _ _ ?_⟩
               all_goals clear hK K)
          simp [go_sem]
    · have hb' : (20 : Int) < (b.length : Int) := by omega
      repeat' first
        | with_reducible first | refine awp_seq ?_ | refine awp_reg ?_ | refine awp_block ?_ | refine awp_ret ?_ | refine awp_exit ?_ | refine awp_skip ?_ | refine awp_scp ?_ | refine scpQ_normal ?_ | refine scpQ_ret ?_ | refine scpQ_exit ?_ | refine seqQ_normal ?_ | refine seqQ_ret ?_ | refine seqQ_exit ?_ | refine blockQ_normal ?_ | refine blockQ_ret ?_ | refine blockQ_same ?_ | refine blockQ_other (by decide) ?_ | refine loopQ_ret ?_ | refine loopQ_exit ?_ | refine arun_nil ?_ | refine arunA_nil ?_ | refine arunB_nil ?_ | refine drwQ_intro ?_ | refine deadQ_nil ?_
        | ((with_reducible refine awp_cond2 (t := ?_) ?hc (fun h => ?_) (fun h => ?_))
           case hc => rfl
           all_goals (try simp [go_sem, ha', hb'] at h)
           all_goals try omega)
        | ((with_reducible first | refine arun_cons fun K hK => ?_ | refine arunA_cons fun K hK => ?_ | refine arunB_cons fun K hK => ?_ | refine awp_drw fun K hK => ?_ | refine deadQ_some fun K hK => ?_ | refine pruneQ_intro fun K hK => ?_)
           simp [go_sem, ha', hb']
           try simp (disch := omega) only [wrap_i64, okRefs, eq_self, true_and]
           first
             | refine hK _ ?_
             | refine hK _ _ ?_
             | (refine ⟨_, f11, ?_⟩; (first | refine hK _ ?_ | refine hK _ _ ?_ | refine ⟨by simp [go_sem, ha', hb'], hK _ ?_⟩ | refine ⟨by simp [go_sem, ha', hb'], hK _ _ ?_⟩ | refine ⟨by simp [go_sem, ha', hb'], by simp [go_sem, ha', hb'], hK _ _ ?_⟩))
             | (refine .inl ⟨_, f11, ?_⟩; (first | refine hK _ ?_ | refine hK _ _ ?_ | refine ⟨by simp [go_sem, ha', hb'], hK _ ?_⟩ | refine ⟨by simp [go_sem, ha', hb'], hK _ _ ?_⟩ | refine ⟨by simp [go_sem, ha', hb'], by simp [go_sem, ha', hb'], hK _ _ ?_⟩))
             | (refine .inr ⟨_, f11, ?_⟩; (first | refine hK _ ?_ | refine hK _ _ ?_ | refine ⟨by simp [go_sem, ha', hb'], hK _ ?_⟩ | refine ⟨by simp [go_sem, ha', hb'], hK _ _ ?_⟩ | refine ⟨by simp [go_sem, ha', hb'], by simp [go_sem, ha', hb'], hK _ _ ?_⟩))
             | (refine ⟨_, ⟨f11, by simp [go_sem, ha', hb']⟩, ?_⟩; (first | refine hK _ ?_ | refine hK _ _ ?_ | refine ⟨by simp [go_sem, ha', hb'], hK _ ?_⟩ | refine ⟨by simp [go_sem, ha', hb'], hK _ _ ?_⟩ | refine ⟨by simp [go_sem, ha', hb'], by simp [go_sem, ha', hb'], hK _ _ ?_⟩))
             | (refine ⟨_, fun _ => f11, ?_⟩; (first | refine hK _ ?_ | refine hK _ _ ?_ | refine ⟨by simp [go_sem, ha', hb'], hK _ ?_⟩ | refine ⟨by simp [go_sem, ha', hb'], hK _ _ ?_⟩ | refine ⟨by simp [go_sem, ha', hb'], by simp [go_sem, ha', hb'], hK _ _ ?_⟩))
             | (refine ⟨_, fun hc => ⟨hc, f11⟩, ?_⟩; (first | refine hK _ ?_ | refine hK _ _ ?_ | refine ⟨by simp [go_sem, ha', hb'], hK _ ?_⟩ | refine ⟨by simp [go_sem, ha', hb'], hK _ _ ?_⟩ | refine ⟨by simp [go_sem, ha', hb'], by simp [go_sem, ha', hb'], hK _ _ ?_⟩))
             | (refine ⟨_, fun hc => ⟨f11, by simp [go_sem, ha', hb']⟩, ?_⟩; (first | refine hK _ ?_ | refine hK _ _ ?_ | refine ⟨by simp [go_sem, ha', hb'], hK _ ?_⟩ | refine ⟨by simp [go_sem, ha', hb'], hK _ _ ?_⟩ | refine ⟨by simp [go_sem, ha', hb'], by simp [go_sem, ha', hb'], hK _ _ ?_⟩))
             | (refine ⟨_, fun hc => ⟨hc, f11, by simp [go_sem, ha', hb']⟩, ?_⟩; (first | refine hK _ ?_ | refine hK _ _ ?_ | refine ⟨by simp [go_sem, ha', hb'], hK _ ?_⟩ | refine ⟨by simp [go_sem, ha', hb'], hK _ _ ?_⟩ | refine ⟨by simp [go_sem, ha', hb'], by simp [go_sem, ha', hb'], hK _ _ ?_⟩))
             | refine ⟨.one (.one (.bool false)), by simp [go_sem, ha', hb'], hK _ _ ?_⟩
             | refine ⟨by (first | (simp [appendOk, flatEls, ha', hb']; done) | (simp [appendOk, flatEls, ha', hb']; omega)), hK _ ?_⟩
             | refine ⟨hK _ ?_, fun h => hK _ ?_⟩
             | refine ⟨by omega, hK _ ?_⟩
             | refine ⟨by omega, hK _ _ ?_⟩
             | refine ⟨?_, hK _ ?_⟩
             | refine ⟨?_, hK _ _ ?_⟩
           all_goals clear hK K)
      simp [go_sem]
  · have ha' : (20 : Int) < (a.length : Int) := by omega
    repeat' first
      | with_reducible first | refine awp_seq ?_ | refine awp_reg ?_ | refine awp_block ?_ | refine awp_ret ?_ | refine awp_exit ?_ | refine awp_skip ?_ | refine awp_scp ?_ | refine scpQ_normal ?_ | refine scpQ_ret ?_ | refine scpQ_exit ?_ | refine seqQ_normal ?_ | refine seqQ_ret ?_ | refine seqQ_exit ?_ | refine blockQ_normal ?_ | refine blockQ_ret ?_ | refine blockQ_same ?_ | refine blockQ_other (by decide) ?_ | refine loopQ_ret ?_ | refine loopQ_exit ?_ | refine arun_nil ?_ | refine arunA_nil ?_ | refine arunB_nil ?_ | refine drwQ_intro ?_ | refine deadQ_nil ?_
      | ((with_reducible refine awp_cond2 (t := ?_) ?hc (fun h => ?_) (fun h => ?_))
         case hc => rfl
         all_goals (try simp [go_sem, ha'] at h)
         all_goals try omega)
      | ((with_reducible first | refine arun_cons fun K hK => ?_ | refine arunA_cons fun K hK => ?_ | refine arunB_cons fun K hK => ?_ | refine awp_drw fun K hK => ?_ | refine deadQ_some fun K hK => ?_ | refine pruneQ_intro fun K hK => ?_)
         simp [go_sem, ha']
         try simp (disch := omega) only [wrap_i64, okRefs, eq_self, true_and]
         first
           | refine hK _ ?_
           | refine hK _ _ ?_
           | (refine ⟨_, f11, ?_⟩; (first | refine hK _ ?_ | refine hK _ _ ?_ | refine ⟨by simp [go_sem, ha'], hK _ ?_⟩ | refine ⟨by simp [go_sem, ha'], hK _ _ ?_⟩ | refine ⟨by simp [go_sem, ha'], by simp [go_sem, ha'], hK _ _ ?_⟩))
           | (refine .inl ⟨_, f11, ?_⟩; (first | refine hK _ ?_ | refine hK _ _ ?_ | refine ⟨by simp [go_sem, ha'], hK _ ?_⟩ | refine ⟨by simp [go_sem, ha'], hK _ _ ?_⟩ | refine ⟨by simp [go_sem, ha'], by simp [go_sem, ha'], hK _ _ ?_⟩))
           | (refine .inr ⟨_, f11, ?_⟩; (first | refine hK _ ?_ | refine hK _ _ ?_ | refine ⟨by simp [go_sem, ha'], hK _ ?_⟩ | refine ⟨by simp [go_sem, ha'], hK _ _ ?_⟩ | refine ⟨by simp [go_sem, ha'], by simp [go_sem, ha'], hK _ _ ?_⟩))
           | (refine ⟨_, ⟨f11, by simp [go_sem, ha']⟩, ?_⟩; (first | refine hK _ ?_ | refine hK _ _ ?_ | refine ⟨by simp [go_sem, ha'], hK _ ?_⟩ | refine ⟨by simp [go_sem, ha'], hK _ _ ?_⟩ | refine ⟨by simp [go_sem, ha'], by simp [go_sem, ha'], hK _ _ ?_⟩))
           | (refine ⟨_, fun _ => f11, ?_⟩; (first | refine hK _ ?_ | refine hK _ _ ?_ | refine ⟨by simp [go_sem, ha'], hK _ ?_⟩ | refine ⟨by simp [go_sem, ha'], hK _ _ ?_⟩ | refine ⟨by simp [go_sem, ha'], by simp [go_sem, ha'], hK _ _ ?_⟩))
           | (refine ⟨_, fun hc => ⟨hc, f11⟩, ?_⟩; (first | refine hK _ ?_ | refine hK _ _ ?_ | refine ⟨by simp [go_sem, ha'], hK _ ?_⟩ | refine ⟨by simp [go_sem, ha'], hK _ _ ?_⟩ | refine ⟨by simp [go_sem, ha'], by simp [go_sem, ha'], hK _ _ ?_⟩))
           | (refine ⟨_, fun hc => ⟨f11, by simp [go_sem, ha']⟩, ?_⟩; (first | refine hK _ ?_ | refine hK _ _ ?_ | refine ⟨by simp [go_sem, ha'], hK _ ?_⟩ | refine ⟨by simp [go_sem, ha'], hK _ _ ?_⟩ | refine ⟨by simp [go_sem, ha'], by simp [go_sem, ha'], hK _ _ ?_⟩))
           | (refine ⟨_, fun hc => ⟨hc, f11, by simp [go_sem, ha']⟩, ?_⟩; (first | refine hK _ ?_ | refine hK _ _ ?_ | refine ⟨by simp [go_sem, ha'], hK _ ?_⟩ | refine ⟨by simp [go_sem, ha'], hK _ _ ?_⟩ | refine ⟨by simp [go_sem, ha'], by simp [go_sem, ha'], hK _ _ ?_⟩))
           | refine ⟨.one (.one (.bool false)), by simp [go_sem, ha'], hK _ _ ?_⟩
           | refine ⟨by (first | (simp [appendOk, flatEls, ha']; done) | (simp [appendOk, flatEls, ha']; omega)), hK _ ?_⟩
           | refine ⟨hK _ ?_, fun h => hK _ ?_⟩
           | refine ⟨by omega, hK _ ?_⟩
           | refine ⟨by omega, hK _ _ ?_⟩
           | refine ⟨?_, hK _ ?_⟩
           | refine ⟨?_, hK _ _ ?_⟩
         all_goals clear hK K)
    simp [go_sem]
end Go.Av
