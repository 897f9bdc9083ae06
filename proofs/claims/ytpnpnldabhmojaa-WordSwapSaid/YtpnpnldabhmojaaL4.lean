/- Part of a proof by symbolic walks on plain data. -/
import Derived.Test.YtpnpnldabhmojaaCL4
import Derived.Test.YtpnpnldabhmojaaWF
import Derived.Test.YtpnpnldabhmojaaW2
import Derived.Test.YtpnpnldabhmojaaMT
set_option linter.unusedVariables false
set_option linter.unusedSimpArgs false
namespace Go.Av
open Go Go.RowKit Go.Proofs

def swapAt (l : List Inter) (k : Nat) (x y : Inter) : List Inter := (l.set k y).set (k + 1) x

theorem ev1_single {x : Inter} {r : Int} (hx : okI x = true) (hr : roles x r) : ∃ e, ev1 r x = [e] ∧ (∀ y, okI y = true → ev1 r y = [e] → x = y) := by
  simp only [okI, Bool.and_eq_true, decide_eq_true_eq] at hx
  have hne := hx.2
  rcases hr with hr | hr
  · refine ⟨⟨r, true, x.to, x.label, none⟩, ?_, fun y _ hy => ?_⟩
    · unfold ev1
      rw [if_pos hr, if_neg (by omega)]
      rfl
    · obtain ⟨h1, h2, h3⟩ := ev1_send hy
      cases x; cases y; simp_all
  · refine ⟨⟨r, false, x.from_, x.label, none⟩, ?_, fun y _ hy => ?_⟩
    · unfold ev1
      rw [if_neg (by omega), if_pos hr]
      rfl
    · obtain ⟨_, h1, h2, h3⟩ := ev1_recv hy
      cases x; cases y; simp_all

theorem swap_iff {x y : Inter} (hne : x ≠ y) (hx : okI x = true) (hy : okI y = true) (p s : List Inter) : (∀ r, project (p ++ x :: y :: s) r = project (p ++ y :: x :: s) r) ↔ indep x y = true := by
  constructor
  · intro h
    rw [indep_roles]
    intro r hrx hry
    have := h r
    rw [project_app, project_app, project_cons, project_cons, project_cons, project_cons] at this
    have := List.append_cancel_left this
    obtain ⟨ex, h1, h2⟩ := ev1_single hx hrx
    obtain ⟨ey, h3, _⟩ := ev1_single hy hry
    rw [h1, h3] at this
    simp at this
    rw [← this.1] at h3
    exact hne (h2 y hy h3)
  · intro h r
    rw [project_app, project_app, project_cons, project_cons, project_cons, project_cons]
    congr 1
    by_cases hr : roles x r
    · rw [ev1_none (indep_roles.1 h r hr)]
      simp
    · rw [ev1_none hr]
      simp

theorem swap_split {l : List Inter} {k : Nat} (h : k + 1 < l.length) : l = l.take k ++ l[k] :: l[k + 1] :: l.drop (k + 2) ∧ swapAt l k l[k] l[k + 1] = l.take k ++ l[k + 1] :: l[k] :: l.drop (k + 2) := by
  have h1 : l = l.take k ++ l[k] :: l[k + 1] :: l.drop (k + 2) := by
    conv => lhs; rw [← List.take_append_drop k l, List.drop_eq_getElem_cons (by omega), List.drop_eq_getElem_cons (by omega)]
  refine ⟨h1, ?_⟩
  unfold swapAt
  apply List.ext_getElem
  · simp
    omega
  · intro i g1 g2
    simp only [List.length_set] at g1
    rw [List.getElem_set, List.getElem_set]
    by_cases e1 : k + 1 = i
    · subst e1
      simp [List.getElem_append_right]
      have : min k l.length = k := by omega
      simp [this]
    · by_cases e2 : k = i
      · subst e2
        have : min k l.length = k := by omega
        simp [List.getElem_append_right, this]
      · rw [if_neg e1, if_neg e2]
        by_cases e3 : i < k
        · rw [List.getElem_append_left (by simp; omega)]
          simp
        · have hm : min k l.length = k := by omega
          rw [List.getElem_append_right (by simp; omega)]
          obtain ⟨j, rfl⟩ : ∃ j, i = k + (j + 2) := ⟨i - k - 2, by omega⟩
          simp [hm]
          congr 1
          omega

theorem swap_normal {l : List Inter} {k : Nat} (h : k + 1 < l.length) (hne : l[k] ≠ l[k + 1]) (hok : l.all okI = true) : decide (normal l = normal (swapAt l k l[k] l[k + 1])) = indep l[k] l[k + 1] := by
  rw [List.all_eq_true] at hok
  obtain ⟨h1, h2⟩ := swap_split h
  rw [Bool.eq_iff_iff, decide_eq_true_eq, normal_iff, ← swap_iff hne (hok _ (List.getElem_mem _)) (hok _ (List.getElem_mem _)) (l.take k) (l.drop (k + 2)), ← h1, ← h2]

theorem swap_same {l : List Inter} {k : Nat} (h : k + 1 < l.length) (he : l[k] = l[k + 1]) : swapAt l k l[k] l[k + 1] = l := by
  obtain ⟨h1, h2⟩ := swap_split h
  rw [h2]
  conv => rhs; rw [h1]
  rw [he]

set_option maxHeartbeats 8000000 in
theorem law4 (l : List Inter) (at_ : Int) (h0 : 0 ≤ at_) (h255 : at_ ≤ 255) : Impl Try.prog 4 [.one (.sl (l.map encI)), .one (.int .u8 at_)] (.one (.one (.bool true))) := by
  refine impl_intro Try.func4 b4 e4 r4 n4 Try.ntmps4 d4 (by simp) fun hs => ?_
  clear hs
  simp only [c4, slotsOf]
  by_cases h2 : l.length < 2
  · have h2' : (l.length : Int) < 2 := by omega
    repeat' first
      | with_reducible first | refine awp_seq ?_ | refine awp_reg ?_ | refine awp_block ?_ | refine awp_ret ?_ | refine awp_exit ?_ | refine awp_skip ?_ | refine awp_scp ?_ | refine scpQ_normal ?_ | refine scpQ_ret ?_ | refine scpQ_exit ?_ | refine seqQ_normal ?_ | refine seqQ_ret ?_ | refine seqQ_exit ?_ | refine blockQ_normal ?_ | refine blockQ_ret ?_ | refine blockQ_same ?_ | refine blockQ_other (by decide) ?_ | refine loopQ_ret ?_ | refine loopQ_exit ?_ | refine arun_nil ?_ | refine arunA_nil ?_ | refine arunB_nil ?_ | refine drwQ_intro ?_ | refine deadQ_nil ?_
      | ((with_reducible refine awp_cond2 (t := ?_) ?hc (fun h => ?_) (fun h => ?_))
         case hc => rfl
         all_goals (try simp [go_sem, h2'] at h)
         all_goals try omega)
      | ((with_reducible first | refine arun_cons fun K hK => ?_ | refine arunA_cons fun K hK => ?_ | refine arunB_cons fun K hK => ?_ | refine awp_drw fun K hK => ?_ | refine deadQ_some fun K hK => ?_ | refine pruneQ_intro fun K hK => ?_)
         simp [go_sem, h2']
         try simp (disch := omega) only [wrap_i64, okRefs, eq_self, true_and]
         first
           | refine hK _ ?_
           | refine hK _ _ ?_
           | (refine ⟨_, f11, ?_⟩; (first | refine hK _ ?_ | refine hK _ _ ?_ | refine ⟨by simp [go_sem, h2'], hK _ ?_⟩ | refine ⟨by simp [go_sem, h2'], hK _ _ ?_⟩ | refine ⟨by simp [go_sem, h2'], by simp [go_sem, h2'], hK _ _ ?_⟩))
           | (refine .inl ⟨_, f11, ?_⟩; (first | refine hK _ ?_ | refine hK _ _ ?_ | refine ⟨by simp [go_sem, h2'], hK _ ?_⟩ | refine ⟨by simp [go_sem, h2'], hK _ _ ?_⟩ | refine ⟨by simp [go_sem, h2'], by simp [go_sem, h2'], hK _ _ ?_⟩))
           | (refine .inr ⟨_, f11, ?_⟩; (first | refine hK _ ?_ | refine hK _ _ ?_ | refine ⟨by simp [go_sem, h2'], hK _ ?_⟩ | refine ⟨by simp [go_sem, h2'], hK _ _ ?_⟩ | refine ⟨by simp [go_sem, h2'], by simp [go_sem, h2'], hK _ _ ?_⟩))
           | (refine ⟨_, ⟨f11, by simp [go_sem, h2']⟩, ?_⟩; (first | refine hK _ ?_ | refine hK _ _ ?_ | refine ⟨by simp [go_sem, h2'], hK _ ?_⟩ | refine ⟨by simp [go_sem, h2'], hK _ _ ?_⟩ | refine ⟨by simp [go_sem, h2'], by simp [go_sem, h2'], hK _ _ ?_⟩))
           | (refine ⟨_, fun _ => f11, ?_⟩; (first | refine hK _ ?_ | refine hK _ _ ?_ | refine ⟨by simp [go_sem, h2'], hK _ ?_⟩ | refine ⟨by simp [go_sem, h2'], hK _ _ ?_⟩ | refine ⟨by simp [go_sem, h2'], by simp [go_sem, h2'], hK _ _ ?_⟩))
           | (refine ⟨_, fun hc => ⟨hc, f11⟩, ?_⟩; (first | refine hK _ ?_ | refine hK _ _ ?_ | refine ⟨by simp [go_sem, h2'], hK _ ?_⟩ | refine ⟨by simp [go_sem, h2'], hK _ _ ?_⟩ | refine ⟨by simp [go_sem, h2'], by simp [go_sem, h2'], hK _ _ ?_⟩))
           | (refine ⟨_, fun hc => ⟨f11, by simp [go_sem, h2']⟩, ?_⟩; (first | refine hK _ ?_ | refine hK _ _ ?_ | refine ⟨by simp [go_sem, h2'], hK _ ?_⟩ | refine ⟨by simp [go_sem, h2'], hK _ _ ?_⟩ | refine ⟨by simp [go_sem, h2'], by simp [go_sem, h2'], hK _ _ ?_⟩))
           | (refine ⟨_, fun hc => ⟨hc, f11, by simp [go_sem, h2']⟩, ?_⟩; (first | refine hK _ ?_ | refine hK _ _ ?_ | refine ⟨by simp [go_sem, h2'], hK _ ?_⟩ | refine ⟨by simp [go_sem, h2'], hK _ _ ?_⟩ | refine ⟨by simp [go_sem, h2'], by simp [go_sem, h2'], hK _ _ ?_⟩))
           | refine ⟨.one (.one (.bool false)), by simp [go_sem, h2'], hK _ _ ?_⟩
           | refine ⟨by (first | (simp [appendOk, flatEls, h2']; done) | (simp [appendOk, flatEls, h2']; omega)), hK _ ?_⟩
           | refine ⟨hK _ ?_, fun h => hK _ ?_⟩
           | refine ⟨by omega, hK _ ?_⟩
           | refine ⟨by omega, hK _ _ ?_⟩
           | refine ⟨?_, hK _ ?_⟩
           | refine ⟨?_, hK _ _ ?_⟩
         all_goals clear hK K)
    simp [go_sem]
  · have h2' : ¬ (l.length : Int) < 2 := by omega
    by_cases h20 : l.length ≤ 20
    · have h20' : ¬ (20 : Int) < (l.length : Int) := by omega
      by_cases hp : l.all okI = true
      · obtain ⟨k, hk⟩ : ∃ k : Nat, at_.tmod ((l.length : Int) - 1) = k := ⟨(at_.tmod ((l.length : Int) - 1)).toNat, (Int.toNat_of_nonneg (Int.tmod_nonneg _ h0)).symm⟩
        have hkl : k + 1 < l.length := by
          have := Int.tmod_lt_of_pos at_ (show (0 : Int) < (l.length : Int) - 1 by omega)
          omega
        have hk0 : k < l.length := by omega
        have hw : IntKind.i64.wrap ((k : Int) + 1) = (k : Int) + 1 := wrap_i64 (by omega) (by omega)
        have ht1 : ((k : Int) + 1).toNat = k + 1 := by omega
        have hp0 : (0 : Int) ≤ (k : Int) + 1 := by omega
        have hset : ((l.map encI).set k [.int .i64 l[k + 1].from_, .int .i64 l[k + 1].to, .int .i64 l[k + 1].label]).set (k + 1) [.int .i64 l[k].from_, .int .i64 l[k].to, .int .i64 l[k].label] = (swapAt l k l[k] l[k + 1]).map encI := by
          unfold swapAt
          rw [List.map_set, List.map_set]
          rfl
        have hsl : (swapAt l k l[k] l[k + 1]).length = l.length := by simp [swapAt]
        have f14s := f14 l (swapAt l k l[k] l[k + 1]) (by omega) (by omega)
        have n1 := normal_len _ l rfl
        have n2 := normal_len _ (swapAt l k l[k] l[k + 1]) rfl
        have f16s := f16 (normal l) (normal (swapAt l k l[k] l[k + 1])) (by omega) (by omega)
        by_cases he : l[k] = l[k + 1]
        · rw [swap_same hkl he] at f14s
          have hdec : decide (normal l = normal l) = true := by simp
          rw [hdec] at f14s
          have hset2 := hset
          rw [swap_same hkl he] at hset2
          clear hset f16s
          have e1 : l[k].from_ = l[k + 1].from_ := by rw [he]
          have e2 : l[k].to = l[k + 1].to := by rw [he]
          have e3 : l[k].label = l[k + 1].label := by rw [he]
          repeat' first
            | with_reducible first | refine awp_seq ?_ | refine awp_reg ?_ | refine awp_block ?_ | refine awp_ret ?_ | refine awp_exit ?_ | refine awp_skip ?_ | refine awp_scp ?_ | refine scpQ_normal ?_ | refine scpQ_ret ?_ | refine scpQ_exit ?_ | refine seqQ_normal ?_ | refine seqQ_ret ?_ | refine seqQ_exit ?_ | refine blockQ_normal ?_ | refine blockQ_ret ?_ | refine blockQ_same ?_ | refine blockQ_other (by decide) ?_ | refine loopQ_ret ?_ | refine loopQ_exit ?_ | refine arun_nil ?_ | refine arunA_nil ?_ | refine arunB_nil ?_ | refine drwQ_intro ?_ | refine deadQ_nil ?_
            | ((with_reducible refine awp_cond2 (t := ?_) ?hc (fun h => ?_) (fun h => ?_))
               case hc => rfl
               all_goals (try simp [go_sem, h2', h20', hp, hk, hw, ht1, hp0, hkl, hk0, encI, hset2, frzLL_map] at h)
               all_goals try omega)
            | ((with_reducible first | refine arun_cons fun K hK => ?_ | refine arunA_cons fun K hK => ?_ | refine arunB_cons fun K hK => ?_ | refine awp_drw fun K hK => ?_ | refine deadQ_some fun K hK => ?_ | refine pruneQ_intro fun K hK => ?_)
               simp [go_sem, h2', h20', hp, hk, hw, ht1, hp0, hkl, hk0, encI, hset2, frzLL_map]
               try simp (disch := omega) only [wrap_i64, okRefs, eq_self, true_and]
               first
                 | refine hK _ ?_
                 | refine hK _ _ ?_
                 | (refine ⟨_, f11, ?_⟩; (first | refine hK _ ?_ | refine hK _ _ ?_ | refine ⟨by simp [go_sem, h2', h20', hp, hk, hw, ht1, hp0, hkl, hk0, encI, hset2, frzLL_map], hK _ ?_⟩ | refine ⟨by simp [go_sem, h2', h20', hp, hk, hw, ht1, hp0, hkl, hk0, encI, hset2, frzLL_map], hK _ _ ?_⟩ | refine ⟨by simp [go_sem, h2', h20', hp, hk, hw, ht1, hp0, hkl, hk0, encI, hset2, frzLL_map], by simp [go_sem, h2', h20', hp, hk, hw, ht1, hp0, hkl, hk0, encI, hset2, frzLL_map], hK _ _ ?_⟩))
                 | (refine .inl ⟨_, f11, ?_⟩; (first | refine hK _ ?_ | refine hK _ _ ?_ | refine ⟨by simp [go_sem, h2', h20', hp, hk, hw, ht1, hp0, hkl, hk0, encI, hset2, frzLL_map], hK _ ?_⟩ | refine ⟨by simp [go_sem, h2', h20', hp, hk, hw, ht1, hp0, hkl, hk0, encI, hset2, frzLL_map], hK _ _ ?_⟩ | refine ⟨by simp [go_sem, h2', h20', hp, hk, hw, ht1, hp0, hkl, hk0, encI, hset2, frzLL_map], by simp [go_sem, h2', h20', hp, hk, hw, ht1, hp0, hkl, hk0, encI, hset2, frzLL_map], hK _ _ ?_⟩))
                 | (refine .inr ⟨_, f11, ?_⟩; (first | refine hK _ ?_ | refine hK _ _ ?_ | refine ⟨by simp [go_sem, h2', h20', hp, hk, hw, ht1, hp0, hkl, hk0, encI, hset2, frzLL_map], hK _ ?_⟩ | refine ⟨by simp [go_sem, h2', h20', hp, hk, hw, ht1, hp0, hkl, hk0, encI, hset2, frzLL_map], hK _ _ ?_⟩ | refine ⟨by simp [go_sem, h2', h20', hp, hk, hw, ht1, hp0, hkl, hk0, encI, hset2, frzLL_map], by simp [go_sem, h2', h20', hp, hk, hw, ht1, hp0, hkl, hk0, encI, hset2, frzLL_map], hK _ _ ?_⟩))
                 | (refine ⟨_, ⟨f11, by simp [go_sem, h2', h20', hp, hk, hw, ht1, hp0, hkl, hk0, encI, hset2, frzLL_map]⟩, ?_⟩; (first | refine hK _ ?_ | refine hK _ _ ?_ | refine ⟨by simp [go_sem, h2', h20', hp, hk, hw, ht1, hp0, hkl, hk0, encI, hset2, frzLL_map], hK _ ?_⟩ | refine ⟨by simp [go_sem, h2', h20', hp, hk, hw, ht1, hp0, hkl, hk0, encI, hset2, frzLL_map], hK _ _ ?_⟩ | refine ⟨by simp [go_sem, h2', h20', hp, hk, hw, ht1, hp0, hkl, hk0, encI, hset2, frzLL_map], by simp [go_sem, h2', h20', hp, hk, hw, ht1, hp0, hkl, hk0, encI, hset2, frzLL_map], hK _ _ ?_⟩))
                 | (refine ⟨_, fun _ => f11, ?_⟩; (first | refine hK _ ?_ | refine hK _ _ ?_ | refine ⟨by simp [go_sem, h2', h20', hp, hk, hw, ht1, hp0, hkl, hk0, encI, hset2, frzLL_map], hK _ ?_⟩ | refine ⟨by simp [go_sem, h2', h20', hp, hk, hw, ht1, hp0, hkl, hk0, encI, hset2, frzLL_map], hK _ _ ?_⟩ | refine ⟨by simp [go_sem, h2', h20', hp, hk, hw, ht1, hp0, hkl, hk0, encI, hset2, frzLL_map], by simp [go_sem, h2', h20', hp, hk, hw, ht1, hp0, hkl, hk0, encI, hset2, frzLL_map], hK _ _ ?_⟩))
                 | (refine ⟨_, fun hc => ⟨hc, f11⟩, ?_⟩; (first | refine hK _ ?_ | refine hK _ _ ?_ | refine ⟨by simp [go_sem, h2', h20', hp, hk, hw, ht1, hp0, hkl, hk0, encI, hset2, frzLL_map], hK _ ?_⟩ | refine ⟨by simp [go_sem, h2', h20', hp, hk, hw, ht1, hp0, hkl, hk0, encI, hset2, frzLL_map], hK _ _ ?_⟩ | refine ⟨by simp [go_sem, h2', h20', hp, hk, hw, ht1, hp0, hkl, hk0, encI, hset2, frzLL_map], by simp [go_sem, h2', h20', hp, hk, hw, ht1, hp0, hkl, hk0, encI, hset2, frzLL_map], hK _ _ ?_⟩))
                 | (refine ⟨_, fun hc => ⟨f11, by simp [go_sem, h2', h20', hp, hk, hw, ht1, hp0, hkl, hk0, encI, hset2, frzLL_map]⟩, ?_⟩; (first | refine hK _ ?_ | refine hK _ _ ?_ | refine ⟨by simp [go_sem, h2', h20', hp, hk, hw, ht1, hp0, hkl, hk0, encI, hset2, frzLL_map], hK _ ?_⟩ | refine ⟨by simp [go_sem, h2', h20', hp, hk, hw, ht1, hp0, hkl, hk0, encI, hset2, frzLL_map], hK _ _ ?_⟩ | refine ⟨by simp [go_sem, h2', h20', hp, hk, hw, ht1, hp0, hkl, hk0, encI, hset2, frzLL_map], by simp [go_sem, h2', h20', hp, hk, hw, ht1, hp0, hkl, hk0, encI, hset2, frzLL_map], hK _ _ ?_⟩))
                 | (refine ⟨_, fun hc => ⟨hc, f11, by simp [go_sem, h2', h20', hp, hk, hw, ht1, hp0, hkl, hk0, encI, hset2, frzLL_map]⟩, ?_⟩; (first | refine hK _ ?_ | refine hK _ _ ?_ | refine ⟨by simp [go_sem, h2', h20', hp, hk, hw, ht1, hp0, hkl, hk0, encI, hset2, frzLL_map], hK _ ?_⟩ | refine ⟨by simp [go_sem, h2', h20', hp, hk, hw, ht1, hp0, hkl, hk0, encI, hset2, frzLL_map], hK _ _ ?_⟩ | refine ⟨by simp [go_sem, h2', h20', hp, hk, hw, ht1, hp0, hkl, hk0, encI, hset2, frzLL_map], by simp [go_sem, h2', h20', hp, hk, hw, ht1, hp0, hkl, hk0, encI, hset2, frzLL_map], hK _ _ ?_⟩))
                 | (refine ⟨_, f22 l (by omega), ?_⟩; (first | refine hK _ ?_ | refine hK _ _ ?_ | refine ⟨by simp [go_sem, h2', h20', hp, hk, hw, ht1, hp0, hkl, hk0, encI, hset2, frzLL_map], hK _ ?_⟩ | refine ⟨by simp [go_sem, h2', h20', hp, hk, hw, ht1, hp0, hkl, hk0, encI, hset2, frzLL_map], hK _ _ ?_⟩ | refine ⟨by simp [go_sem, h2', h20', hp, hk, hw, ht1, hp0, hkl, hk0, encI, hset2, frzLL_map], by simp [go_sem, h2', h20', hp, hk, hw, ht1, hp0, hkl, hk0, encI, hset2, frzLL_map], hK _ _ ?_⟩))
                 | (refine .inl ⟨_, f22 l (by omega), ?_⟩; (first | refine hK _ ?_ | refine hK _ _ ?_ | refine ⟨by simp [go_sem, h2', h20', hp, hk, hw, ht1, hp0, hkl, hk0, encI, hset2, frzLL_map], hK _ ?_⟩ | refine ⟨by simp [go_sem, h2', h20', hp, hk, hw, ht1, hp0, hkl, hk0, encI, hset2, frzLL_map], hK _ _ ?_⟩ | refine ⟨by simp [go_sem, h2', h20', hp, hk, hw, ht1, hp0, hkl, hk0, encI, hset2, frzLL_map], by simp [go_sem, h2', h20', hp, hk, hw, ht1, hp0, hkl, hk0, encI, hset2, frzLL_map], hK _ _ ?_⟩))
                 | (refine .inr ⟨_, f22 l (by omega), ?_⟩; (first | refine hK _ ?_ | refine hK _ _ ?_ | refine ⟨by simp [go_sem, h2', h20', hp, hk, hw, ht1, hp0, hkl, hk0, encI, hset2, frzLL_map], hK _ ?_⟩ | refine ⟨by simp [go_sem, h2', h20', hp, hk, hw, ht1, hp0, hkl, hk0, encI, hset2, frzLL_map], hK _ _ ?_⟩ | refine ⟨by simp [go_sem, h2', h20', hp, hk, hw, ht1, hp0, hkl, hk0, encI, hset2, frzLL_map], by simp [go_sem, h2', h20', hp, hk, hw, ht1, hp0, hkl, hk0, encI, hset2, frzLL_map], hK _ _ ?_⟩))
                 | (refine ⟨_, ⟨f22 l (by omega), by simp [go_sem, h2', h20', hp, hk, hw, ht1, hp0, hkl, hk0, encI, hset2, frzLL_map]⟩, ?_⟩; (first | refine hK _ ?_ | refine hK _ _ ?_ | refine ⟨by simp [go_sem, h2', h20', hp, hk, hw, ht1, hp0, hkl, hk0, encI, hset2, frzLL_map], hK _ ?_⟩ | refine ⟨by simp [go_sem, h2', h20', hp, hk, hw, ht1, hp0, hkl, hk0, encI, hset2, frzLL_map], hK _ _ ?_⟩ | refine ⟨by simp [go_sem, h2', h20', hp, hk, hw, ht1, hp0, hkl, hk0, encI, hset2, frzLL_map], by simp [go_sem, h2', h20', hp, hk, hw, ht1, hp0, hkl, hk0, encI, hset2, frzLL_map], hK _ _ ?_⟩))
                 | (refine ⟨_, fun _ => f22 l (by omega), ?_⟩; (first | refine hK _ ?_ | refine hK _ _ ?_ | refine ⟨by simp [go_sem, h2', h20', hp, hk, hw, ht1, hp0, hkl, hk0, encI, hset2, frzLL_map], hK _ ?_⟩ | refine ⟨by simp [go_sem, h2', h20', hp, hk, hw, ht1, hp0, hkl, hk0, encI, hset2, frzLL_map], hK _ _ ?_⟩ | refine ⟨by simp [go_sem, h2', h20', hp, hk, hw, ht1, hp0, hkl, hk0, encI, hset2, frzLL_map], by simp [go_sem, h2', h20', hp, hk, hw, ht1, hp0, hkl, hk0, encI, hset2, frzLL_map], hK _ _ ?_⟩))
                 | (refine ⟨_, fun hc => ⟨hc, f22 l (by omega)⟩, ?_⟩; (first | refine hK _ ?_ | refine hK _ _ ?_ | refine ⟨by simp [go_sem, h2', h20', hp, hk, hw, ht1, hp0, hkl, hk0, encI, hset2, frzLL_map], hK _ ?_⟩ | refine ⟨by simp [go_sem, h2', h20', hp, hk, hw, ht1, hp0, hkl, hk0, encI, hset2, frzLL_map], hK _ _ ?_⟩ | refine ⟨by simp [go_sem, h2', h20', hp, hk, hw, ht1, hp0, hkl, hk0, encI, hset2, frzLL_map], by simp [go_sem, h2', h20', hp, hk, hw, ht1, hp0, hkl, hk0, encI, hset2, frzLL_map], hK _ _ ?_⟩))
                 | (refine ⟨_, fun hc => ⟨f22 l (by omega), by simp [go_sem, h2', h20', hp, hk, hw, ht1, hp0, hkl, hk0, encI, hset2, frzLL_map]⟩, ?_⟩; (first | refine hK _ ?_ | refine hK _ _ ?_ | refine ⟨by simp [go_sem, h2', h20', hp, hk, hw, ht1, hp0, hkl, hk0, encI, hset2, frzLL_map], hK _ ?_⟩ | refine ⟨by simp [go_sem, h2', h20', hp, hk, hw, ht1, hp0, hkl, hk0, encI, hset2, frzLL_map], hK _ _ ?_⟩ | refine ⟨by simp [go_sem, h2', h20', hp, hk, hw, ht1, hp0, hkl, hk0, encI, hset2, frzLL_map], by simp [go_sem, h2', h20', hp, hk, hw, ht1, hp0, hkl, hk0, encI, hset2, frzLL_map], hK _ _ ?_⟩))
                 | (refine ⟨_, fun hc => ⟨hc, f22 l (by omega), by simp [go_sem, h2', h20', hp, hk, hw, ht1, hp0, hkl, hk0, encI, hset2, frzLL_map]⟩, ?_⟩; (first | refine hK _ ?_ | refine hK _ _ ?_ | refine ⟨by simp [go_sem, h2', h20', hp, hk, hw, ht1, hp0, hkl, hk0, encI, hset2, frzLL_map], hK _ ?_⟩ | refine ⟨by simp [go_sem, h2', h20', hp, hk, hw, ht1, hp0, hkl, hk0, encI, hset2, frzLL_map], hK _ _ ?_⟩ | refine ⟨by simp [go_sem, h2', h20', hp, hk, hw, ht1, hp0, hkl, hk0, encI, hset2, frzLL_map], by simp [go_sem, h2', h20', hp, hk, hw, ht1, hp0, hkl, hk0, encI, hset2, frzLL_map], hK _ _ ?_⟩))
                 | (refine ⟨_, f14s, ?_⟩; (first | refine hK _ ?_ | refine hK _ _ ?_ | refine ⟨by simp [go_sem, h2', h20', hp, hk, hw, ht1, hp0, hkl, hk0, encI, hset2, frzLL_map], hK _ ?_⟩ | refine ⟨by simp [go_sem, h2', h20', hp, hk, hw, ht1, hp0, hkl, hk0, encI, hset2, frzLL_map], hK _ _ ?_⟩ | refine ⟨by simp [go_sem, h2', h20', hp, hk, hw, ht1, hp0, hkl, hk0, encI, hset2, frzLL_map], by simp [go_sem, h2', h20', hp, hk, hw, ht1, hp0, hkl, hk0, encI, hset2, frzLL_map], hK _ _ ?_⟩))
                 | (refine .inl ⟨_, f14s, ?_⟩; (first | refine hK _ ?_ | refine hK _ _ ?_ | refine ⟨by simp [go_sem, h2', h20', hp, hk, hw, ht1, hp0, hkl, hk0, encI, hset2, frzLL_map], hK _ ?_⟩ | refine ⟨by simp [go_sem, h2', h20', hp, hk, hw, ht1, hp0, hkl, hk0, encI, hset2, frzLL_map], hK _ _ ?_⟩ | refine ⟨by simp [go_sem, h2', h20', hp, hk, hw, ht1, hp0, hkl, hk0, encI, hset2, frzLL_map], by simp [go_sem, h2', h20', hp, hk, hw, ht1, hp0, hkl, hk0, encI, hset2, frzLL_map], hK _ _ ?_⟩))
                 | (refine .inr ⟨_, f14s, ?_⟩; (first | refine hK _ ?_ | refine hK _ _ ?_ | refine ⟨by simp [go_sem, h2', h20', hp, hk, hw, ht1, hp0, hkl, hk0, encI, hset2, frzLL_map], hK _ ?_⟩ | refine ⟨by simp [go_sem, h2', h20', hp, hk, hw, ht1, hp0, hkl, hk0, encI, hset2, frzLL_map], hK _ _ ?_⟩ | refine ⟨by simp [go_sem, h2', h20', hp, hk, hw, ht1, hp0, hkl, hk0, encI, hset2, frzLL_map], by simp [go_sem, h2', h20', hp, hk, hw, ht1, hp0, hkl, hk0, encI, hset2, frzLL_map], hK _ _ ?_⟩))
                 | (refine ⟨_, ⟨f14s, by simp [go_sem, h2', h20', hp, hk, hw, ht1, hp0, hkl, hk0, encI, hset2, frzLL_map]⟩, ?_⟩; (first | refine hK _ ?_ | refine hK _ _ ?_ | refine ⟨by simp [go_sem, h2', h20', hp, hk, hw, ht1, hp0, hkl, hk0, encI, hset2, frzLL_map], hK _ ?_⟩ | refine ⟨by simp [go_sem, h2', h20', hp, hk, hw, ht1, hp0, hkl, hk0, encI, hset2, frzLL_map], hK _ _ ?_⟩ | refine ⟨by simp [go_sem, h2', h20', hp, hk, hw, ht1, hp0, hkl, hk0, encI, hset2, frzLL_map], by simp [go_sem, h2', h20', hp, hk, hw, ht1, hp0, hkl, hk0, encI, hset2, frzLL_map], hK _ _ ?_⟩))
                 | (refine ⟨_, fun _ => f14s, ?_⟩; (first | refine hK _ ?_ | refine hK _ _ ?_ | refine ⟨by simp [go_sem, h2', h20', hp, hk, hw, ht1, hp0, hkl, hk0, encI, hset2, frzLL_map], hK _ ?_⟩ | refine ⟨by simp [go_sem, h2', h20', hp, hk, hw, ht1, hp0, hkl, hk0, encI, hset2, frzLL_map], hK _ _ ?_⟩ | refine ⟨by simp [go_sem, h2', h20', hp, hk, hw, ht1, hp0, hkl, hk0, encI, hset2, frzLL_map], by simp [go_sem, h2', h20', hp, hk, hw, ht1, hp0, hkl, hk0, encI, hset2, frzLL_map], hK _ _ ?_⟩))
                 | (refine ⟨_, fun hc => ⟨hc, f14s⟩, ?_⟩; (first | refine hK _ ?_ | refine hK _ _ ?_ | refine ⟨by simp [go_sem, h2', h20', hp, hk, hw, ht1, hp0, hkl, hk0, encI, hset2, frzLL_map], hK _ ?_⟩ | refine ⟨by simp [go_sem, h2', h20', hp, hk, hw, ht1, hp0, hkl, hk0, encI, hset2, frzLL_map], hK _ _ ?_⟩ | refine ⟨by simp [go_sem, h2', h20', hp, hk, hw, ht1, hp0, hkl, hk0, encI, hset2, frzLL_map], by simp [go_sem, h2', h20', hp, hk, hw, ht1, hp0, hkl, hk0, encI, hset2, frzLL_map], hK _ _ ?_⟩))
                 | (refine ⟨_, fun hc => ⟨f14s, by simp [go_sem, h2', h20', hp, hk, hw, ht1, hp0, hkl, hk0, encI, hset2, frzLL_map]⟩, ?_⟩; (first | refine hK _ ?_ | refine hK _ _ ?_ | refine ⟨by simp [go_sem, h2', h20', hp, hk, hw, ht1, hp0, hkl, hk0, encI, hset2, frzLL_map], hK _ ?_⟩ | refine ⟨by simp [go_sem, h2', h20', hp, hk, hw, ht1, hp0, hkl, hk0, encI, hset2, frzLL_map], hK _ _ ?_⟩ | refine ⟨by simp [go_sem, h2', h20', hp, hk, hw, ht1, hp0, hkl, hk0, encI, hset2, frzLL_map], by simp [go_sem, h2', h20', hp, hk, hw, ht1, hp0, hkl, hk0, encI, hset2, frzLL_map], hK _ _ ?_⟩))
                 | (refine ⟨_, fun hc => ⟨hc, f14s, by simp [go_sem, h2', h20', hp, hk, hw, ht1, hp0, hkl, hk0, encI, hset2, frzLL_map]⟩, ?_⟩; (first | refine hK _ ?_ | refine hK _ _ ?_ | refine ⟨by simp [go_sem, h2', h20', hp, hk, hw, ht1, hp0, hkl, hk0, encI, hset2, frzLL_map], hK _ ?_⟩ | refine ⟨by simp [go_sem, h2', h20', hp, hk, hw, ht1, hp0, hkl, hk0, encI, hset2, frzLL_map], hK _ _ ?_⟩ | refine ⟨by simp [go_sem, h2', h20', hp, hk, hw, ht1, hp0, hkl, hk0, encI, hset2, frzLL_map], by simp [go_sem, h2', h20', hp, hk, hw, ht1, hp0, hkl, hk0, encI, hset2, frzLL_map], hK _ _ ?_⟩))
                 | refine ⟨.one (.one (.bool false)), by simp [go_sem, h2', h20', hp, hk, hw, ht1, hp0, hkl, hk0, encI, hset2, frzLL_map], hK _ _ ?_⟩
                 | refine ⟨by (first | (simp [appendOk, flatEls, h2', h20', hp, hk, hw, ht1, hp0, hkl, hk0, encI, hset2, frzLL_map, maxLen, DV.flat]; done) | (simp [appendOk, flatEls, h2', h20', hp, hk, hw, ht1, hp0, hkl, hk0, encI, hset2, frzLL_map, maxLen, DV.flat]; omega)), hK _ ?_⟩
                 | refine ⟨hK _ ?_, fun h => hK _ ?_⟩
                 | refine ⟨by omega, hK _ ?_⟩
                 | refine ⟨by omega, hK _ _ ?_⟩
                 | refine ⟨?_, hK _ ?_⟩
                 | refine ⟨?_, hK _ _ ?_⟩
               all_goals clear hK K)
          simp [go_sem]
        · have hsn := swap_normal hkl he hp
          rw [hsn] at f14s f16s
          repeat' first
            | with_reducible first | refine awp_seq ?_ | refine awp_reg ?_ | refine awp_block ?_ | refine awp_ret ?_ | refine awp_exit ?_ | refine awp_skip ?_ | refine awp_scp ?_ | refine scpQ_normal ?_ | refine scpQ_ret ?_ | refine scpQ_exit ?_ | refine seqQ_normal ?_ | refine seqQ_ret ?_ | refine seqQ_exit ?_ | refine blockQ_normal ?_ | refine blockQ_ret ?_ | refine blockQ_same ?_ | refine blockQ_other (by decide) ?_ | refine loopQ_ret ?_ | refine loopQ_exit ?_ | refine arun_nil ?_ | refine arunA_nil ?_ | refine arunB_nil ?_ | refine drwQ_intro ?_ | refine deadQ_nil ?_
            | ((with_reducible refine awp_cond2 (t := ?_) ?hc (fun h => ?_) (fun h => ?_))
               case hc => rfl
               all_goals (try simp [go_sem, h2', h20', hp, hk, hw, ht1, hp0, hkl, hk0, encI, hset, frzLL_map] at h)
               all_goals try omega)
            | ((with_reducible first | refine arun_cons fun K hK => ?_ | refine arunA_cons fun K hK => ?_ | refine arunB_cons fun K hK => ?_ | refine awp_drw fun K hK => ?_ | refine deadQ_some fun K hK => ?_ | refine pruneQ_intro fun K hK => ?_)
               simp [go_sem, h2', h20', hp, hk, hw, ht1, hp0, hkl, hk0, encI, hset, frzLL_map]
               try simp (disch := omega) only [wrap_i64, okRefs, eq_self, true_and]
               first
                 | refine hK _ ?_
                 | refine hK _ _ ?_
                 | (refine ⟨_, f11, ?_⟩; (first | refine hK _ ?_ | refine hK _ _ ?_ | refine ⟨by simp [go_sem, h2', h20', hp, hk, hw, ht1, hp0, hkl, hk0, encI, hset, frzLL_map], hK _ ?_⟩ | refine ⟨by simp [go_sem, h2', h20', hp, hk, hw, ht1, hp0, hkl, hk0, encI, hset, frzLL_map], hK _ _ ?_⟩ | refine ⟨by simp [go_sem, h2', h20', hp, hk, hw, ht1, hp0, hkl, hk0, encI, hset, frzLL_map], by simp [go_sem, h2', h20', hp, hk, hw, ht1, hp0, hkl, hk0, encI, hset, frzLL_map], hK _ _ ?_⟩))
                 | (refine .inl ⟨_, f11, ?_⟩; (first | refine hK _ ?_ | refine hK _ _ ?_ | refine ⟨by simp [go_sem, h2', h20', hp, hk, hw, ht1, hp0, hkl, hk0, encI, hset, frzLL_map], hK _ ?_⟩ | refine ⟨by simp [go_sem, h2', h20', hp, hk, hw, ht1, hp0, hkl, hk0, encI, hset, frzLL_map], hK _ _ ?_⟩ | refine ⟨by simp [go_sem, h2', h20', hp, hk, hw, ht1, hp0, hkl, hk0, encI, hset, frzLL_map], by simp [go_sem, h2', h20', hp, hk, hw, ht1, hp0, hkl, hk0, encI, hset, frzLL_map], hK _ _ ?_⟩))
                 | (refine .inr ⟨_, f11, ?_⟩; (first | refine hK _ ?_ | refine hK _ _ ?_ | refine ⟨by simp [go_sem, h2', h20', hp, hk, hw, ht1, hp0, hkl, hk0, encI, hset, frzLL_map], hK _ ?_⟩ | refine ⟨by simp [go_sem, h2', h20', hp, hk, hw, ht1, hp0, hkl, hk0, encI, hset, frzLL_map], hK _ _ ?_⟩ | refine ⟨by simp [go_sem, h2', h20', hp, hk, hw, ht1, hp0, hkl, hk0, encI, hset, frzLL_map], by simp [go_sem, h2', h20', hp, hk, hw, ht1, hp0, hkl, hk0, encI, hset, frzLL_map], hK _ _ ?_⟩))
                 | (refine ⟨_, ⟨f11, by simp [go_sem, h2', h20', hp, hk, hw, ht1, hp0, hkl, hk0, encI, hset, frzLL_map]⟩, ?_⟩; (first | refine hK _ ?_ | refine hK _ _ ?_ | refine ⟨by simp [go_sem, h2', h20', hp, hk, hw, ht1, hp0, hkl, hk0, encI, hset, frzLL_map], hK _ ?_⟩ | refine ⟨by simp [go_sem, h2', h20', hp, hk, hw, ht1, hp0, hkl, hk0, encI, hset, frzLL_map], hK _ _ ?_⟩ | refine ⟨by simp [go_sem, h2', h20', hp, hk, hw, ht1, hp0, hkl, hk0, encI, hset, frzLL_map], by simp [go_sem, h2', h20', hp, hk, hw, ht1, hp0, hkl, hk0, encI, hset, frzLL_map], hK _ _ ?_⟩))
                 | (refine ⟨_, fun _ => f11, ?_⟩; (first | refine hK _ ?_ | refine hK _ _ ?_ | refine ⟨by simp [go_sem, h2', h20', hp, hk, hw, ht1, hp0, hkl, hk0, encI, hset, frzLL_map], hK _ ?_⟩ | refine ⟨by simp [go_sem, h2', h20', hp, hk, hw, ht1, hp0, hkl, hk0, encI, hset, frzLL_map], hK _ _ ?_⟩ | refine ⟨by simp [go_sem, h2', h20', hp, hk, hw, ht1, hp0, hkl, hk0, encI, hset, frzLL_map], by simp [go_sem, h2', h20', hp, hk, hw, ht1, hp0, hkl, hk0, encI, hset, frzLL_map], hK _ _ ?_⟩))
                 | (refine ⟨_, fun hc => ⟨hc, f11⟩, ?_⟩; (first | refine hK _ ?_ | refine hK _ _ ?_ | refine ⟨by simp [go_sem, h2', h20', hp, hk, hw, ht1, hp0, hkl, hk0, encI, hset, frzLL_map], hK _ ?_⟩ | refine ⟨by simp [go_sem, h2', h20', hp, hk, hw, ht1, hp0, hkl, hk0, encI, hset, frzLL_map], hK _ _ ?_⟩ | refine ⟨by simp [go_sem, h2', h20', hp, hk, hw, ht1, hp0, hkl, hk0, encI, hset, frzLL_map], by simp [go_sem, h2', h20', hp, hk, hw, ht1, hp0, hkl, hk0, encI, hset, frzLL_map], hK _ _ ?_⟩))
                 | (refine ⟨_, fun hc => ⟨f11, by simp [go_sem, h2', h20', hp, hk, hw, ht1, hp0, hkl, hk0, encI, hset, frzLL_map]⟩, ?_⟩; (first | refine hK _ ?_ | refine hK _ _ ?_ | refine ⟨by simp [go_sem, h2', h20', hp, hk, hw, ht1, hp0, hkl, hk0, encI, hset, frzLL_map], hK _ ?_⟩ | refine ⟨by simp [go_sem, h2', h20', hp, hk, hw, ht1, hp0, hkl, hk0, encI, hset, frzLL_map], hK _ _ ?_⟩ | refine ⟨by simp [go_sem, h2', h20', hp, hk, hw, ht1, hp0, hkl, hk0, encI, hset, frzLL_map], by simp [go_sem, h2', h20', hp, hk, hw, ht1, hp0, hkl, hk0, encI, hset, frzLL_map], hK _ _ ?_⟩))
                 | (refine ⟨_, fun hc => ⟨hc, f11, by simp [go_sem, h2', h20', hp, hk, hw, ht1, hp0, hkl, hk0, encI, hset, frzLL_map]⟩, ?_⟩; (first | refine hK _ ?_ | refine hK _ _ ?_ | refine ⟨by simp [go_sem, h2', h20', hp, hk, hw, ht1, hp0, hkl, hk0, encI, hset, frzLL_map], hK _ ?_⟩ | refine ⟨by simp [go_sem, h2', h20', hp, hk, hw, ht1, hp0, hkl, hk0, encI, hset, frzLL_map], hK _ _ ?_⟩ | refine ⟨by simp [go_sem, h2', h20', hp, hk, hw, ht1, hp0, hkl, hk0, encI, hset, frzLL_map], by simp [go_sem, h2', h20', hp, hk, hw, ht1, hp0, hkl, hk0, encI, hset, frzLL_map], hK _ _ ?_⟩))
                 | (refine ⟨_, f22 l (by omega), ?_⟩; (first | refine hK _ ?_ | refine hK _ _ ?_ | refine ⟨by simp [go_sem, h2', h20', hp, hk, hw, ht1, hp0, hkl, hk0, encI, hset, frzLL_map], hK _ ?_⟩ | refine ⟨by simp [go_sem, h2', h20', hp, hk, hw, ht1, hp0, hkl, hk0, encI, hset, frzLL_map], hK _ _ ?_⟩ | refine ⟨by simp [go_sem, h2', h20', hp, hk, hw, ht1, hp0, hkl, hk0, encI, hset, frzLL_map], by simp [go_sem, h2', h20', hp, hk, hw, ht1, hp0, hkl, hk0, encI, hset, frzLL_map], hK _ _ ?_⟩))
                 | (refine .inl ⟨_, f22 l (by omega), ?_⟩; (first | refine hK _ ?_ | refine hK _ _ ?_ | refine ⟨by simp [go_sem, h2', h20', hp, hk, hw, ht1, hp0, hkl, hk0, encI, hset, frzLL_map], hK _ ?_⟩ | refine ⟨by simp [go_sem, h2', h20', hp, hk, hw, ht1, hp0, hkl, hk0, encI, hset, frzLL_map], hK _ _ ?_⟩ | refine ⟨by simp [go_sem, h2', h20', hp, hk, hw, ht1, hp0, hkl, hk0, encI, hset, frzLL_map], by simp [go_sem, h2', h20', hp, hk, hw, ht1, hp0, hkl, hk0, encI, hset, frzLL_map], hK _ _ ?_⟩))
                 | (refine .inr ⟨_, f22 l (by omega), ?_⟩; (first | refine hK _ ?_ | refine hK _ _ ?_ | refine ⟨by simp [go_sem, h2', h20', hp, hk, hw, ht1, hp0, hkl, hk0, encI, hset, frzLL_map], hK _ ?_⟩ | refine ⟨by simp [go_sem, h2', h20', hp, hk, hw, ht1, hp0, hkl, hk0, encI, hset, frzLL_map], hK _ _ ?_⟩ | refine ⟨by simp [go_sem, h2', h20', hp, hk, hw, ht1, hp0, hkl, hk0, encI, hset, frzLL_map], by simp [go_sem, h2', h20', hp, hk, hw, ht1, hp0, hkl, hk0, encI, hset, frzLL_map], hK _ _ ?_⟩))
                 | (refine ⟨_, ⟨f22 l (by omega), by simp [go_sem, h2', h20', hp, hk, hw, ht1, hp0, hkl, hk0, encI, hset, frzLL_map]⟩, ?_⟩; (first | refine hK _ ?_ | refine hK _ _ ?_ | refine ⟨by simp [go_sem, h2', h20', hp, hk, hw, ht1, hp0, hkl, hk0, encI, hset, frzLL_map], hK _ ?_⟩ | refine ⟨by simp [go_sem, h2', h20', hp, hk, hw, ht1, hp0, hkl, hk0, encI, hset, frzLL_map], hK _ _ ?_⟩ | refine ⟨by simp [go_sem, h2', h20', hp, hk, hw, ht1, hp0, hkl, hk0, encI, hset, frzLL_map], by simp [go_sem, h2', h20', hp, hk, hw, ht1, hp0, hkl, hk0, encI, hset, frzLL_map], hK _ _ ?_⟩))
                 | (refine ⟨_, fun _ => f22 l (by omega), ?_⟩; (first | refine hK _ ?_ | refine hK _ _ ?_ | refine ⟨by simp [go_sem, h2', h20', hp, hk, hw, ht1, hp0, hkl, hk0, encI, hset, frzLL_map], hK _ ?_⟩ | refine ⟨by simp [go_sem, h2', h20', hp, hk, hw, ht1, hp0, hkl, hk0, encI, hset, frzLL_map], hK _ _ ?_⟩ | refine ⟨by simp [go_sem, h2', h20', hp, hk, hw, ht1, hp0, hkl, hk0, encI, hset, frzLL_map], by simp [go_sem, h2', h20', hp, hk, hw, ht1, hp0, hkl, hk0, encI, hset, frzLL_map], hK _ _ ?_⟩))
                 | (refine ⟨_, fun hc => ⟨hc, f22 l (by omega)⟩, ?_⟩; (first | refine hK _ ?_ | refine hK _ _ ?_ | refine ⟨by simp [go_sem, h2', h20', hp, hk, hw, ht1, hp0, hkl, hk0, encI, hset, frzLL_map], hK _ ?_⟩ | refine ⟨by simp [go_sem, h2', h20', hp, hk, hw, ht1, hp0, hkl, hk0, encI, hset, frzLL_map], hK _ _ ?_⟩ | refine ⟨by simp [go_sem, h2', h20', hp, hk, hw, ht1, hp0, hkl, hk0, encI, hset, frzLL_map], by simp [go_sem, h2', h20', hp, hk, hw, ht1, hp0, hkl, hk0, encI, hset, frzLL_map], hK _ _ ?_⟩))
                 | (refine ⟨_, fun hc => ⟨f22 l (by omega), by simp [go_sem, h2', h20', hp, hk, hw, ht1, hp0, hkl, hk0, encI, hset, frzLL_map]⟩, ?_⟩; (first | refine hK _ ?_ | refine hK _ _ ?_ | refine ⟨by simp [go_sem, h2', h20', hp, hk, hw, ht1, hp0, hkl, hk0, encI, hset, frzLL_map], hK _ ?_⟩ | refine ⟨by simp [go_sem, h2', h20', hp, hk, hw, ht1, hp0, hkl, hk0, encI, hset, frzLL_map], hK _ _ ?_⟩ | refine ⟨by simp [go_sem, h2', h20', hp, hk, hw, ht1, hp0, hkl, hk0, encI, hset, frzLL_map], by simp [go_sem, h2', h20', hp, hk, hw, ht1, hp0, hkl, hk0, encI, hset, frzLL_map], hK _ _ ?_⟩))
                 | (refine ⟨_, fun hc => ⟨hc, f22 l (by omega), by simp [go_sem, h2', h20', hp, hk, hw, ht1, hp0, hkl, hk0, encI, hset, frzLL_map]⟩, ?_⟩; (first | refine hK _ ?_ | refine hK _ _ ?_ | refine ⟨by simp [go_sem, h2', h20', hp, hk, hw, ht1, hp0, hkl, hk0, encI, hset, frzLL_map], hK _ ?_⟩ | refine ⟨by simp [go_sem, h2', h20', hp, hk, hw, ht1, hp0, hkl, hk0, encI, hset, frzLL_map], hK _ _ ?_⟩ | refine ⟨by simp [go_sem, h2', h20', hp, hk, hw, ht1, hp0, hkl, hk0, encI, hset, frzLL_map], by simp [go_sem, h2', h20', hp, hk, hw, ht1, hp0, hkl, hk0, encI, hset, frzLL_map], hK _ _ ?_⟩))
                 | (refine ⟨_, f14s, ?_⟩; (first | refine hK _ ?_ | refine hK _ _ ?_ | refine ⟨by simp [go_sem, h2', h20', hp, hk, hw, ht1, hp0, hkl, hk0, encI, hset, frzLL_map], hK _ ?_⟩ | refine ⟨by simp [go_sem, h2', h20', hp, hk, hw, ht1, hp0, hkl, hk0, encI, hset, frzLL_map], hK _ _ ?_⟩ | refine ⟨by simp [go_sem, h2', h20', hp, hk, hw, ht1, hp0, hkl, hk0, encI, hset, frzLL_map], by simp [go_sem, h2', h20', hp, hk, hw, ht1, hp0, hkl, hk0, encI, hset, frzLL_map], hK _ _ ?_⟩))
                 | (refine .inl ⟨_, f14s, ?_⟩; (first | refine hK _ ?_ | refine hK _ _ ?_ | refine ⟨by simp [go_sem, h2', h20', hp, hk, hw, ht1, hp0, hkl, hk0, encI, hset, frzLL_map], hK _ ?_⟩ | refine ⟨by simp [go_sem, h2', h20', hp, hk, hw, ht1, hp0, hkl, hk0, encI, hset, frzLL_map], hK _ _ ?_⟩ | refine ⟨by simp [go_sem, h2', h20', hp, hk, hw, ht1, hp0, hkl, hk0, encI, hset, frzLL_map], by simp [go_sem, h2', h20', hp, hk, hw, ht1, hp0, hkl, hk0, encI, hset, frzLL_map], hK _ _ ?_⟩))
                 | (refine .inr ⟨_, f14s, ?_⟩; (first | refine hK _ ?_ | refine hK _ _ ?_ | refine ⟨by simp [go_sem, h2', h20', hp, hk, hw, ht1, hp0, hkl, hk0, encI, hset, frzLL_map], hK _ ?_⟩ | refine ⟨by simp [go_sem, h2', h20', hp, hk, hw, ht1, hp0, hkl, hk0, encI, hset, frzLL_map], hK _ _ ?_⟩ | refine ⟨by simp [go_sem, h2', h20', hp, hk, hw, ht1, hp0, hkl, hk0, encI, hset, frzLL_map], by simp [go_sem, h2', h20', hp, hk, hw, ht1, hp0, hkl, hk0, encI, hset, frzLL_map], hK _ _ ?_⟩))
                 | (refine ⟨_, ⟨f14s, by simp [go_sem, h2', h20', hp, hk, hw, ht1, hp0, hkl, hk0, encI, hset, frzLL_map]⟩, ?_⟩; (first | refine hK _ ?_ | refine hK _ _ ?_ | refine ⟨by simp [go_sem, h2', h20', hp, hk, hw, ht1, hp0, hkl, hk0, encI, hset, frzLL_map], hK _ ?_⟩ | refine ⟨by simp [go_sem, h2', h20', hp, hk, hw, ht1, hp0, hkl, hk0, encI, hset, frzLL_map], hK _ _ ?_⟩ | refine ⟨by simp [go_sem, h2', h20', hp, hk, hw, ht1, hp0, hkl, hk0, encI, hset, frzLL_map], by simp [go_sem, h2', h20', hp, hk, hw, ht1, hp0, hkl, hk0, encI, hset, frzLL_map], hK _ _ ?_⟩))
                 | (refine ⟨_, fun _ => f14s, ?_⟩; (first | refine hK _ ?_ | refine hK _ _ ?_ | refine ⟨by simp [go_sem, h2', h20', hp, hk, hw, ht1, hp0, hkl, hk0, encI, hset, frzLL_map], hK _ ?_⟩ | refine ⟨by simp [go_sem, h2', h20', hp, hk, hw, ht1, hp0, hkl, hk0, encI, hset, frzLL_map], hK _ _ ?_⟩ | refine ⟨by simp [go_sem, h2', h20', hp, hk, hw, ht1, hp0, hkl, hk0, encI, hset, frzLL_map], by simp [go_sem, h2', h20', hp, hk, hw, ht1, hp0, hkl, hk0, encI, hset, frzLL_map], hK _ _ ?_⟩))
                 | (refine ⟨_, fun hc => ⟨hc, f14s⟩, ?_⟩; (first | refine hK _ ?_ | refine hK _ _ ?_ | refine ⟨by simp [go_sem, h2', h20', hp, hk, hw, ht1, hp0, hkl, hk0, encI, hset, frzLL_map], hK _ ?_⟩ | refine ⟨by simp [go_sem, h2', h20', hp, hk, hw, ht1, hp0, hkl, hk0, encI, hset, frzLL_map], hK _ _ ?_⟩ | refine ⟨by simp [go_sem, h2', h20', hp, hk, hw, ht1, hp0, hkl, hk0, encI, hset, frzLL_map], by simp [go_sem, h2', h20', hp, hk, hw, ht1, hp0, hkl, hk0, encI, hset, frzLL_map], hK _ _ ?_⟩))
                 | (refine ⟨_, fun hc => ⟨f14s, by simp [go_sem, h2', h20', hp, hk, hw, ht1, hp0, hkl, hk0, encI, hset, frzLL_map]⟩, ?_⟩; (first | refine hK _ ?_ | refine hK _ _ ?_ | refine ⟨by simp [go_sem, h2', h20', hp, hk, hw, ht1, hp0, hkl, hk0, encI, hset, frzLL_map], hK _ ?_⟩ | refine ⟨by simp [go_sem, h2', h20', hp, hk, hw, ht1, hp0, hkl, hk0, encI, hset, frzLL_map], hK _ _ ?_⟩ | refine ⟨by simp [go_sem, h2', h20', hp, hk, hw, ht1, hp0, hkl, hk0, encI, hset, frzLL_map], by simp [go_sem, h2', h20', hp, hk, hw, ht1, hp0, hkl, hk0, encI, hset, frzLL_map], hK _ _ ?_⟩))
                 | (refine ⟨_, fun hc => ⟨hc, f14s, by simp [go_sem, h2', h20', hp, hk, hw, ht1, hp0, hkl, hk0, encI, hset, frzLL_map]⟩, ?_⟩; (first | refine hK _ ?_ | refine hK _ _ ?_ | refine ⟨by simp [go_sem, h2', h20', hp, hk, hw, ht1, hp0, hkl, hk0, encI, hset, frzLL_map], hK _ ?_⟩ | refine ⟨by simp [go_sem, h2', h20', hp, hk, hw, ht1, hp0, hkl, hk0, encI, hset, frzLL_map], hK _ _ ?_⟩ | refine ⟨by simp [go_sem, h2', h20', hp, hk, hw, ht1, hp0, hkl, hk0, encI, hset, frzLL_map], by simp [go_sem, h2', h20', hp, hk, hw, ht1, hp0, hkl, hk0, encI, hset, frzLL_map], hK _ _ ?_⟩))
                 | (refine ⟨_, f20 l[k] l[k + 1], ?_⟩; (first | refine hK _ ?_ | refine hK _ _ ?_ | refine ⟨by simp [go_sem, h2', h20', hp, hk, hw, ht1, hp0, hkl, hk0, encI, hset, frzLL_map], hK _ ?_⟩ | refine ⟨by simp [go_sem, h2', h20', hp, hk, hw, ht1, hp0, hkl, hk0, encI, hset, frzLL_map], hK _ _ ?_⟩ | refine ⟨by simp [go_sem, h2', h20', hp, hk, hw, ht1, hp0, hkl, hk0, encI, hset, frzLL_map], by simp [go_sem, h2', h20', hp, hk, hw, ht1, hp0, hkl, hk0, encI, hset, frzLL_map], hK _ _ ?_⟩))
                 | (refine .inl ⟨_, f20 l[k] l[k + 1], ?_⟩; (first | refine hK _ ?_ | refine hK _ _ ?_ | refine ⟨by simp [go_sem, h2', h20', hp, hk, hw, ht1, hp0, hkl, hk0, encI, hset, frzLL_map], hK _ ?_⟩ | refine ⟨by simp [go_sem, h2', h20', hp, hk, hw, ht1, hp0, hkl, hk0, encI, hset, frzLL_map], hK _ _ ?_⟩ | refine ⟨by simp [go_sem, h2', h20', hp, hk, hw, ht1, hp0, hkl, hk0, encI, hset, frzLL_map], by simp [go_sem, h2', h20', hp, hk, hw, ht1, hp0, hkl, hk0, encI, hset, frzLL_map], hK _ _ ?_⟩))
                 | (refine .inr ⟨_, f20 l[k] l[k + 1], ?_⟩; (first | refine hK _ ?_ | refine hK _ _ ?_ | refine ⟨by simp [go_sem, h2', h20', hp, hk, hw, ht1, hp0, hkl, hk0, encI, hset, frzLL_map], hK _ ?_⟩ | refine ⟨by simp [go_sem, h2', h20', hp, hk, hw, ht1, hp0, hkl, hk0, encI, hset, frzLL_map], hK _ _ ?_⟩ | refine ⟨by simp [go_sem, h2', h20', hp, hk, hw, ht1, hp0, hkl, hk0, encI, hset, frzLL_map], by simp [go_sem, h2', h20', hp, hk, hw, ht1, hp0, hkl, hk0, encI, hset, frzLL_map], hK _ _ ?_⟩))
                 | (refine ⟨_, ⟨f20 l[k] l[k + 1], by simp [go_sem, h2', h20', hp, hk, hw, ht1, hp0, hkl, hk0, encI, hset, frzLL_map]⟩, ?_⟩; (first | refine hK _ ?_ | refine hK _ _ ?_ | refine ⟨by simp [go_sem, h2', h20', hp, hk, hw, ht1, hp0, hkl, hk0, encI, hset, frzLL_map], hK _ ?_⟩ | refine ⟨by simp [go_sem, h2', h20', hp, hk, hw, ht1, hp0, hkl, hk0, encI, hset, frzLL_map], hK _ _ ?_⟩ | refine ⟨by simp [go_sem, h2', h20', hp, hk, hw, ht1, hp0, hkl, hk0, encI, hset, frzLL_map], by simp [go_sem, h2', h20', hp, hk, hw, ht1, hp0, hkl, hk0, encI, hset, frzLL_map], hK _ _ ?_⟩))
                 | (refine ⟨_, fun _ => f20 l[k] l[k + 1], ?_⟩; (first | refine hK _ ?_ | refine hK _ _ ?_ | refine ⟨by simp [go_sem, h2', h20', hp, hk, hw, ht1, hp0, hkl, hk0, encI, hset, frzLL_map], hK _ ?_⟩ | refine ⟨by simp [go_sem, h2', h20', hp, hk, hw, ht1, hp0, hkl, hk0, encI, hset, frzLL_map], hK _ _ ?_⟩ | refine ⟨by simp [go_sem, h2', h20', hp, hk, hw, ht1, hp0, hkl, hk0, encI, hset, frzLL_map], by simp [go_sem, h2', h20', hp, hk, hw, ht1, hp0, hkl, hk0, encI, hset, frzLL_map], hK _ _ ?_⟩))
                 | (refine ⟨_, fun hc => ⟨hc, f20 l[k] l[k + 1]⟩, ?_⟩; (first | refine hK _ ?_ | refine hK _ _ ?_ | refine ⟨by simp [go_sem, h2', h20', hp, hk, hw, ht1, hp0, hkl, hk0, encI, hset, frzLL_map], hK _ ?_⟩ | refine ⟨by simp [go_sem, h2', h20', hp, hk, hw, ht1, hp0, hkl, hk0, encI, hset, frzLL_map], hK _ _ ?_⟩ | refine ⟨by simp [go_sem, h2', h20', hp, hk, hw, ht1, hp0, hkl, hk0, encI, hset, frzLL_map], by simp [go_sem, h2', h20', hp, hk, hw, ht1, hp0, hkl, hk0, encI, hset, frzLL_map], hK _ _ ?_⟩))
                 | (refine ⟨_, fun hc => ⟨f20 l[k] l[k + 1], by simp [go_sem, h2', h20', hp, hk, hw, ht1, hp0, hkl, hk0, encI, hset, frzLL_map]⟩, ?_⟩; (first | refine hK _ ?_ | refine hK _ _ ?_ | refine ⟨by simp [go_sem, h2', h20', hp, hk, hw, ht1, hp0, hkl, hk0, encI, hset, frzLL_map], hK _ ?_⟩ | refine ⟨by simp [go_sem, h2', h20', hp, hk, hw, ht1, hp0, hkl, hk0, encI, hset, frzLL_map], hK _ _ ?_⟩ | refine ⟨by simp [go_sem, h2', h20', hp, hk, hw, ht1, hp0, hkl, hk0, encI, hset, frzLL_map], by simp [go_sem, h2', h20', hp, hk, hw, ht1, hp0, hkl, hk0, encI, hset, frzLL_map], hK _ _ ?_⟩))
                 | (refine ⟨_, fun hc => ⟨hc, f20 l[k] l[k + 1], by simp [go_sem, h2', h20', hp, hk, hw, ht1, hp0, hkl, hk0, encI, hset, frzLL_map]⟩, ?_⟩; (first | refine hK _ ?_ | refine hK _ _ ?_ | refine ⟨by simp [go_sem, h2', h20', hp, hk, hw, ht1, hp0, hkl, hk0, encI, hset, frzLL_map], hK _ ?_⟩ | refine ⟨by simp [go_sem, h2', h20', hp, hk, hw, ht1, hp0, hkl, hk0, encI, hset, frzLL_map], hK _ _ ?_⟩ | refine ⟨by simp [go_sem, h2', h20', hp, hk, hw, ht1, hp0, hkl, hk0, encI, hset, frzLL_map], by simp [go_sem, h2', h20', hp, hk, hw, ht1, hp0, hkl, hk0, encI, hset, frzLL_map], hK _ _ ?_⟩))
                 | (refine ⟨_, f17 l (by omega), ?_⟩; (first | refine hK _ ?_ | refine hK _ _ ?_ | refine ⟨by simp [go_sem, h2', h20', hp, hk, hw, ht1, hp0, hkl, hk0, encI, hset, frzLL_map], hK _ ?_⟩ | refine ⟨by simp [go_sem, h2', h20', hp, hk, hw, ht1, hp0, hkl, hk0, encI, hset, frzLL_map], hK _ _ ?_⟩ | refine ⟨by simp [go_sem, h2', h20', hp, hk, hw, ht1, hp0, hkl, hk0, encI, hset, frzLL_map], by simp [go_sem, h2', h20', hp, hk, hw, ht1, hp0, hkl, hk0, encI, hset, frzLL_map], hK _ _ ?_⟩))
                 | (refine .inl ⟨_, f17 l (by omega), ?_⟩; (first | refine hK _ ?_ | refine hK _ _ ?_ | refine ⟨by simp [go_sem, h2', h20', hp, hk, hw, ht1, hp0, hkl, hk0, encI, hset, frzLL_map], hK _ ?_⟩ | refine ⟨by simp [go_sem, h2', h20', hp, hk, hw, ht1, hp0, hkl, hk0, encI, hset, frzLL_map], hK _ _ ?_⟩ | refine ⟨by simp [go_sem, h2', h20', hp, hk, hw, ht1, hp0, hkl, hk0, encI, hset, frzLL_map], by simp [go_sem, h2', h20', hp, hk, hw, ht1, hp0, hkl, hk0, encI, hset, frzLL_map], hK _ _ ?_⟩))
                 | (refine .inr ⟨_, f17 l (by omega), ?_⟩; (first | refine hK _ ?_ | refine hK _ _ ?_ | refine ⟨by simp [go_sem, h2', h20', hp, hk, hw, ht1, hp0, hkl, hk0, encI, hset, frzLL_map], hK _ ?_⟩ | refine ⟨by simp [go_sem, h2', h20', hp, hk, hw, ht1, hp0, hkl, hk0, encI, hset, frzLL_map], hK _ _ ?_⟩ | refine ⟨by simp [go_sem, h2', h20', hp, hk, hw, ht1, hp0, hkl, hk0, encI, hset, frzLL_map], by simp [go_sem, h2', h20', hp, hk, hw, ht1, hp0, hkl, hk0, encI, hset, frzLL_map], hK _ _ ?_⟩))
                 | (refine ⟨_, ⟨f17 l (by omega), by simp [go_sem, h2', h20', hp, hk, hw, ht1, hp0, hkl, hk0, encI, hset, frzLL_map]⟩, ?_⟩; (first | refine hK _ ?_ | refine hK _ _ ?_ | refine ⟨by simp [go_sem, h2', h20', hp, hk, hw, ht1, hp0, hkl, hk0, encI, hset, frzLL_map], hK _ ?_⟩ | refine ⟨by simp [go_sem, h2', h20', hp, hk, hw, ht1, hp0, hkl, hk0, encI, hset, frzLL_map], hK _ _ ?_⟩ | refine ⟨by simp [go_sem, h2', h20', hp, hk, hw, ht1, hp0, hkl, hk0, encI, hset, frzLL_map], by simp [go_sem, h2', h20', hp, hk, hw, ht1, hp0, hkl, hk0, encI, hset, frzLL_map], hK _ _ ?_⟩))
                 | (refine ⟨_, fun _ => f17 l (by omega), ?_⟩; (first | refine hK _ ?_ | refine hK _ _ ?_ | refine ⟨by simp [go_sem, h2', h20', hp, hk, hw, ht1, hp0, hkl, hk0, encI, hset, frzLL_map], hK _ ?_⟩ | refine ⟨by simp [go_sem, h2', h20', hp, hk, hw, ht1, hp0, hkl, hk0, encI, hset, frzLL_map], hK _ _ ?_⟩ | refine ⟨by simp [go_sem, h2', h20', hp, hk, hw, ht1, hp0, hkl, hk0, encI, hset, frzLL_map], by simp [go_sem, h2', h20', hp, hk, hw, ht1, hp0, hkl, hk0, encI, hset, frzLL_map], hK _ _ ?_⟩))
                 | (refine ⟨_, fun hc => ⟨hc, f17 l (by omega)⟩, ?_⟩; (first | refine hK _ ?_ | refine hK _ _ ?_ | refine ⟨by simp [go_sem, h2', h20', hp, hk, hw, ht1, hp0, hkl, hk0, encI, hset, frzLL_map], hK _ ?_⟩ | refine ⟨by simp [go_sem, h2', h20', hp, hk, hw, ht1, hp0, hkl, hk0, encI, hset, frzLL_map], hK _ _ ?_⟩ | refine ⟨by simp [go_sem, h2', h20', hp, hk, hw, ht1, hp0, hkl, hk0, encI, hset, frzLL_map], by simp [go_sem, h2', h20', hp, hk, hw, ht1, hp0, hkl, hk0, encI, hset, frzLL_map], hK _ _ ?_⟩))
                 | (refine ⟨_, fun hc => ⟨f17 l (by omega), by simp [go_sem, h2', h20', hp, hk, hw, ht1, hp0, hkl, hk0, encI, hset, frzLL_map]⟩, ?_⟩; (first | refine hK _ ?_ | refine hK _ _ ?_ | refine ⟨by simp [go_sem, h2', h20', hp, hk, hw, ht1, hp0, hkl, hk0, encI, hset, frzLL_map], hK _ ?_⟩ | refine ⟨by simp [go_sem, h2', h20', hp, hk, hw, ht1, hp0, hkl, hk0, encI, hset, frzLL_map], hK _ _ ?_⟩ | refine ⟨by simp [go_sem, h2', h20', hp, hk, hw, ht1, hp0, hkl, hk0, encI, hset, frzLL_map], by simp [go_sem, h2', h20', hp, hk, hw, ht1, hp0, hkl, hk0, encI, hset, frzLL_map], hK _ _ ?_⟩))
                 | (refine ⟨_, fun hc => ⟨hc, f17 l (by omega), by simp [go_sem, h2', h20', hp, hk, hw, ht1, hp0, hkl, hk0, encI, hset, frzLL_map]⟩, ?_⟩; (first | refine hK _ ?_ | refine hK _ _ ?_ | refine ⟨by simp [go_sem, h2', h20', hp, hk, hw, ht1, hp0, hkl, hk0, encI, hset, frzLL_map], hK _ ?_⟩ | refine ⟨by simp [go_sem, h2', h20', hp, hk, hw, ht1, hp0, hkl, hk0, encI, hset, frzLL_map], hK _ _ ?_⟩ | refine ⟨by simp [go_sem, h2', h20', hp, hk, hw, ht1, hp0, hkl, hk0, encI, hset, frzLL_map], by simp [go_sem, h2', h20', hp, hk, hw, ht1, hp0, hkl, hk0, encI, hset, frzLL_map], hK _ _ ?_⟩))
                 | (refine ⟨_, f17 (swapAt l k l[k] l[k + 1]) (by omega), ?_⟩; (first | refine hK _ ?_ | refine hK _ _ ?_ | refine ⟨by simp [go_sem, h2', h20', hp, hk, hw, ht1, hp0, hkl, hk0, encI, hset, frzLL_map], hK _ ?_⟩ | refine ⟨by simp [go_sem, h2', h20', hp, hk, hw, ht1, hp0, hkl, hk0, encI, hset, frzLL_map], hK _ _ ?_⟩ | refine ⟨by simp [go_sem, h2', h20', hp, hk, hw, ht1, hp0, hkl, hk0, encI, hset, frzLL_map], by simp [go_sem, h2', h20', hp, hk, hw, ht1, hp0, hkl, hk0, encI, hset, frzLL_map], hK _ _ ?_⟩))
                 | (refine .inl ⟨_, f17 (swapAt l k l[k] l[k + 1]) (by omega), ?_⟩; (first | refine hK _ ?_ | refine hK _ _ ?_ | refine ⟨by simp [go_sem, h2', h20', hp, hk, hw, ht1, hp0, hkl, hk0, encI, hset, frzLL_map], hK _ ?_⟩ | refine ⟨by simp [go_sem, h2', h20', hp, hk, hw, ht1, hp0, hkl, hk0, encI, hset, frzLL_map], hK _ _ ?_⟩ | refine ⟨by simp [go_sem, h2', h20', hp, hk, hw, ht1, hp0, hkl, hk0, encI, hset, frzLL_map], by simp [go_sem, h2', h20', hp, hk, hw, ht1, hp0, hkl, hk0, encI, hset, frzLL_map], hK _ _ ?_⟩))
                 | (refine .inr ⟨_, f17 (swapAt l k l[k] l[k + 1]) (by omega), ?_⟩; (first | refine hK _ ?_ | refine hK _ _ ?_ | refine ⟨by simp [go_sem, h2', h20', hp, hk, hw, ht1, hp0, hkl, hk0, encI, hset, frzLL_map], hK _ ?_⟩ | refine ⟨by simp [go_sem, h2', h20', hp, hk, hw, ht1, hp0, hkl, hk0, encI, hset, frzLL_map], hK _ _ ?_⟩ | refine ⟨by simp [go_sem, h2', h20', hp, hk, hw, ht1, hp0, hkl, hk0, encI, hset, frzLL_map], by simp [go_sem, h2', h20', hp, hk, hw, ht1, hp0, hkl, hk0, encI, hset, frzLL_map], hK _ _ ?_⟩))
                 | (refine ⟨_, ⟨f17 (swapAt l k l[k] l[k + 1]) (by omega), by simp [go_sem, h2', h20', hp, hk, hw, ht1, hp0, hkl, hk0, encI, hset, frzLL_map]⟩, ?_⟩; (first | refine hK _ ?_ | refine hK _ _ ?_ | refine ⟨by simp [go_sem, h2', h20', hp, hk, hw, ht1, hp0, hkl, hk0, encI, hset, frzLL_map], hK _ ?_⟩ | refine ⟨by simp [go_sem, h2', h20', hp, hk, hw, ht1, hp0, hkl, hk0, encI, hset, frzLL_map], hK _ _ ?_⟩ | refine ⟨by simp [go_sem, h2', h20', hp, hk, hw, ht1, hp0, hkl, hk0, encI, hset, frzLL_map], by simp [go_sem, h2', h20', hp, hk, hw, ht1, hp0, hkl, hk0, encI, hset, frzLL_map], hK _ _ ?_⟩))
                 | (refine ⟨_, fun _ => f17 (swapAt l k l[k] l[k + 1]) (by omega), ?_⟩; (first | refine hK _ ?_ | refine hK _ _ ?_ | refine ⟨by simp [go_sem, h2', h20', hp, hk, hw, ht1, hp0, hkl, hk0, encI, hset, frzLL_map], hK _ ?_⟩ | refine ⟨by simp [go_sem, h2', h20', hp, hk, hw, ht1, hp0, hkl, hk0, encI, hset, frzLL_map], hK _ _ ?_⟩ | refine ⟨by simp [go_sem, h2', h20', hp, hk, hw, ht1, hp0, hkl, hk0, encI, hset, frzLL_map], by simp [go_sem, h2', h20', hp, hk, hw, ht1, hp0, hkl, hk0, encI, hset, frzLL_map], hK _ _ ?_⟩))
                 | (refine ⟨_, fun hc => ⟨hc, f17 (swapAt l k l[k] l[k + 1]) (by omega)⟩, ?_⟩; (first | refine hK _ ?_ | refine hK _ _ ?_ | refine ⟨by simp [go_sem, h2', h20', hp, hk, hw, ht1, hp0, hkl, hk0, encI, hset, frzLL_map], hK _ ?_⟩ | refine ⟨by simp [go_sem, h2', h20', hp, hk, hw, ht1, hp0, hkl, hk0, encI, hset, frzLL_map], hK _ _ ?_⟩ | refine ⟨by simp [go_sem, h2', h20', hp, hk, hw, ht1, hp0, hkl, hk0, encI, hset, frzLL_map], by simp [go_sem, h2', h20', hp, hk, hw, ht1, hp0, hkl, hk0, encI, hset, frzLL_map], hK _ _ ?_⟩))
                 | (refine ⟨_, fun hc => ⟨f17 (swapAt l k l[k] l[k + 1]) (by omega), by simp [go_sem, h2', h20', hp, hk, hw, ht1, hp0, hkl, hk0, encI, hset, frzLL_map]⟩, ?_⟩; (first | refine hK _ ?_ | refine hK _ _ ?_ | refine ⟨by simp [go_sem, h2', h20', hp, hk, hw, ht1, hp0, hkl, hk0, encI, hset, frzLL_map], hK _ ?_⟩ | refine ⟨by simp [go_sem, h2', h20', hp, hk, hw, ht1, hp0, hkl, hk0, encI, hset, frzLL_map], hK _ _ ?_⟩ | refine ⟨by simp [go_sem, h2', h20', hp, hk, hw, ht1, hp0, hkl, hk0, encI, hset, frzLL_map], by simp [go_sem, h2', h20', hp, hk, hw, ht1, hp0, hkl, hk0, encI, hset, frzLL_map], hK _ _ ?_⟩))
                 | (refine ⟨_, fun hc => ⟨hc, f17 (swapAt l k l[k] l[k + 1]) (by omega), by simp [go_sem, h2', h20', hp, hk, hw, ht1, hp0, hkl, hk0, encI, hset, frzLL_map]⟩, ?_⟩; (first | refine hK _ ?_ | refine hK _ _ ?_ | refine ⟨by simp [go_sem, h2', h20', hp, hk, hw, ht1, hp0, hkl, hk0, encI, hset, frzLL_map], hK _ ?_⟩ | refine ⟨by simp [go_sem, h2', h20', hp, hk, hw, ht1, hp0, hkl, hk0, encI, hset, frzLL_map], hK _ _ ?_⟩ | refine ⟨by simp [go_sem, h2', h20', hp, hk, hw, ht1, hp0, hkl, hk0, encI, hset, frzLL_map], by simp [go_sem, h2', h20', hp, hk, hw, ht1, hp0, hkl, hk0, encI, hset, frzLL_map], hK _ _ ?_⟩))
                 | (refine ⟨_, f16s, ?_⟩; (first | refine hK _ ?_ | refine hK _ _ ?_ | refine ⟨by simp [go_sem, h2', h20', hp, hk, hw, ht1, hp0, hkl, hk0, encI, hset, frzLL_map], hK _ ?_⟩ | refine ⟨by simp [go_sem, h2', h20', hp, hk, hw, ht1, hp0, hkl, hk0, encI, hset, frzLL_map], hK _ _ ?_⟩ | refine ⟨by simp [go_sem, h2', h20', hp, hk, hw, ht1, hp0, hkl, hk0, encI, hset, frzLL_map], by simp [go_sem, h2', h20', hp, hk, hw, ht1, hp0, hkl, hk0, encI, hset, frzLL_map], hK _ _ ?_⟩))
                 | (refine .inl ⟨_, f16s, ?_⟩; (first | refine hK _ ?_ | refine hK _ _ ?_ | refine ⟨by simp [go_sem, h2', h20', hp, hk, hw, ht1, hp0, hkl, hk0, encI, hset, frzLL_map], hK _ ?_⟩ | refine ⟨by simp [go_sem, h2', h20', hp, hk, hw, ht1, hp0, hkl, hk0, encI, hset, frzLL_map], hK _ _ ?_⟩ | refine ⟨by simp [go_sem, h2', h20', hp, hk, hw, ht1, hp0, hkl, hk0, encI, hset, frzLL_map], by simp [go_sem, h2', h20', hp, hk, hw, ht1, hp0, hkl, hk0, encI, hset, frzLL_map], hK _ _ ?_⟩))
                 | (refine .inr ⟨_, f16s, ?_⟩; (first | refine hK _ ?_ | refine hK _ _ ?_ | refine ⟨by simp [go_sem, h2', h20', hp, hk, hw, ht1, hp0, hkl, hk0, encI, hset, frzLL_map], hK _ ?_⟩ | refine ⟨by simp [go_sem, h2', h20', hp, hk, hw, ht1, hp0, hkl, hk0, encI, hset, frzLL_map], hK _ _ ?_⟩ | refine ⟨by simp [go_sem, h2', h20', hp, hk, hw, ht1, hp0, hkl, hk0, encI, hset, frzLL_map], by simp [go_sem, h2', h20', hp, hk, hw, ht1, hp0, hkl, hk0, encI, hset, frzLL_map], hK _ _ ?_⟩))
                 | (refine ⟨_, ⟨f16s, by simp [go_sem, h2', h20', hp, hk, hw, ht1, hp0, hkl, hk0, encI, hset, frzLL_map]⟩, ?_⟩; (first | refine hK _ ?_ | refine hK _ _ ?_ | refine ⟨by simp [go_sem, h2', h20', hp, hk, hw, ht1, hp0, hkl, hk0, encI, hset, frzLL_map], hK _ ?_⟩ | refine ⟨by simp [go_sem, h2', h20', hp, hk, hw, ht1, hp0, hkl, hk0, encI, hset, frzLL_map], hK _ _ ?_⟩ | refine ⟨by simp [go_sem, h2', h20', hp, hk, hw, ht1, hp0, hkl, hk0, encI, hset, frzLL_map], by simp [go_sem, h2', h20', hp, hk, hw, ht1, hp0, hkl, hk0, encI, hset, frzLL_map], hK _ _ ?_⟩))
                 | (refine ⟨_, fun _ => f16s, ?_⟩; (first | refine hK _ ?_ | refine hK _ _ ?_ | refine ⟨by simp [go_sem, h2', h20', hp, hk, hw, ht1, hp0, hkl, hk0, encI, hset, frzLL_map], hK _ ?_⟩ | refine ⟨by simp [go_sem, h2', h20', hp, hk, hw, ht1, hp0, hkl, hk0, encI, hset, frzLL_map], hK _ _ ?_⟩ | refine ⟨by simp [go_sem, h2', h20', hp, hk, hw, ht1, hp0, hkl, hk0, encI, hset, frzLL_map], by simp [go_sem, h2', h20', hp, hk, hw, ht1, hp0, hkl, hk0, encI, hset, frzLL_map], hK _ _ ?_⟩))
                 | (refine ⟨_, fun hc => ⟨hc, f16s⟩, ?_⟩; (first | refine hK _ ?_ | refine hK _ _ ?_ | refine ⟨by simp [go_sem, h2', h20', hp, hk, hw, ht1, hp0, hkl, hk0, encI, hset, frzLL_map], hK _ ?_⟩ | refine ⟨by simp [go_sem, h2', h20', hp, hk, hw, ht1, hp0, hkl, hk0, encI, hset, frzLL_map], hK _ _ ?_⟩ | refine ⟨by simp [go_sem, h2', h20', hp, hk, hw, ht1, hp0, hkl, hk0, encI, hset, frzLL_map], by simp [go_sem, h2', h20', hp, hk, hw, ht1, hp0, hkl, hk0, encI, hset, frzLL_map], hK _ _ ?_⟩))
                 | (refine ⟨_, fun hc => ⟨f16s, by simp [go_sem, h2', h20', hp, hk, hw, ht1, hp0, hkl, hk0, encI, hset, frzLL_map]⟩, ?_⟩; (first | refine hK _ ?_ | refine hK _ _ ?_ | refine ⟨by simp [go_sem, h2', h20', hp, hk, hw, ht1, hp0, hkl, hk0, encI, hset, frzLL_map], hK _ ?_⟩ | refine ⟨by simp [go_sem, h2', h20', hp, hk, hw, ht1, hp0, hkl, hk0, encI, hset, frzLL_map], hK _ _ ?_⟩ | refine ⟨by simp [go_sem, h2', h20', hp, hk, hw, ht1, hp0, hkl, hk0, encI, hset, frzLL_map], by simp [go_sem, h2', h20', hp, hk, hw, ht1, hp0, hkl, hk0, encI, hset, frzLL_map], hK _ _ ?_⟩))
                 | (refine ⟨_, fun hc => ⟨hc, f16s, by simp [go_sem, h2', h20', hp, hk, hw, ht1, hp0, hkl, hk0, encI, hset, frzLL_map]⟩, ?_⟩; (first | refine hK _ ?_ | refine hK _ _ ?_ | refine ⟨by simp [go_sem, h2', h20', hp, hk, hw, ht1, hp0, hkl, hk0, encI, hset, frzLL_map], hK _ ?_⟩ | refine ⟨by simp [go_sem, h2', h20', hp, hk, hw, ht1, hp0, hkl, hk0, encI, hset, frzLL_map], hK _ _ ?_⟩ | refine ⟨by simp [go_sem, h2', h20', hp, hk, hw, ht1, hp0, hkl, hk0, encI, hset, frzLL_map], by simp [go_sem, h2', h20', hp, hk, hw, ht1, hp0, hkl, hk0, encI, hset, frzLL_map], hK _ _ ?_⟩))
                 | refine ⟨.one (.one (.bool false)), by simp [go_sem, h2', h20', hp, hk, hw, ht1, hp0, hkl, hk0, encI, hset, frzLL_map], hK _ _ ?_⟩
                 | refine ⟨by (first | (simp [appendOk, flatEls, h2', h20', hp, hk, hw, ht1, hp0, hkl, hk0, encI, hset, frzLL_map, maxLen, DV.flat]; done) | (simp [appendOk, flatEls, h2', h20', hp, hk, hw, ht1, hp0, hkl, hk0, encI, hset, frzLL_map, maxLen, DV.flat]; omega)), hK _ ?_⟩
                 | refine ⟨hK _ ?_, fun h => hK _ ?_⟩
                 | refine ⟨by omega, hK _ ?_⟩
                 | refine ⟨by omega, hK _ _ ?_⟩
                 | refine ⟨?_, hK _ ?_⟩
                 | refine ⟨?_, hK _ _ ?_⟩
               all_goals clear hK K)
          · exact (he (by cases h1 : l[k]; cases h2 : l[k + 1]; simp_all)).elim
          · simp [go_sem]
      · have hp' : l.all okI = false := by simpa using hp
        repeat' first
          | with_reducible first | refine awp_seq ?_ | refine awp_reg ?_ | refine awp_block ?_ | refine awp_ret ?_ | refine awp_exit ?_ | refine awp_skip ?_ | refine awp_scp ?_ | refine scpQ_normal ?_ | refine scpQ_ret ?_ | refine scpQ_exit ?_ | refine seqQ_normal ?_ | refine seqQ_ret ?_ | refine seqQ_exit ?_ | refine blockQ_normal ?_ | refine blockQ_ret ?_ | refine blockQ_same ?_ | refine blockQ_other (by decide) ?_ | refine loopQ_ret ?_ | refine loopQ_exit ?_ | refine arun_nil ?_ | refine arunA_nil ?_ | refine arunB_nil ?_ | refine drwQ_intro ?_ | refine deadQ_nil ?_
          | ((with_reducible refine awp_cond2 (t := ?_) ?hc (fun h => ?_) (fun h => ?_))
             case hc => rfl
             all_goals (try simp [go_sem, h2', h20', hp'] at h)
             all_goals try omega)
          | ((with_reducible first | refine arun_cons fun K hK => ?_ | refine arunA_cons fun K hK => ?_ | refine arunB_cons fun K hK => ?_ | refine awp_drw fun K hK => ?_ | refine deadQ_some fun K hK => ?_ | refine pruneQ_intro fun K hK => ?_)
             simp [go_sem, h2', h20', hp']
             try simp (disch := omega) only [wrap_i64, okRefs, eq_self, true_and]
             first
               | refine hK _ ?_
               | refine hK _ _ ?_
               | (refine ⟨_, f11, ?_⟩; (first | refine hK _ ?_ | refine hK _ _ ?_ | refine ⟨by simp [go_sem, h2', h20', hp'], hK _ ?_⟩ | refine ⟨by simp [go_sem, h2', h20', hp'], hK _ _ ?_⟩ | refine ⟨by simp [go_sem, h2', h20', hp'], by simp [go_sem, h2', h20', hp'], hK _ _ ?_⟩))
               | (refine .inl ⟨_, f11, ?_⟩; (first | refine hK _ ?_ | refine hK _ _ ?_ | refine ⟨by simp [go_sem, h2', h20', hp'], hK _ ?_⟩ | refine ⟨by simp [go_sem, h2', h20', hp'], hK _ _ ?_⟩ | refine ⟨by simp [go_sem, h2', h20', hp'], by simp [go_sem, h2', h20', hp'], hK _ _ ?_⟩))
               | (refine .inr ⟨_, f11, ?_⟩; (first | refine hK _ ?_ | refine hK _ _ ?_ | refine ⟨by simp [go_sem, h2', h20', hp'], hK _ ?_⟩ | refine ⟨by simp [go_sem, h2', h20', hp'], hK _ _ ?_⟩ | refine ⟨by simp [go_sem, h2', h20', hp'], by simp [go_sem, h2', h20', hp'], hK _ _ ?_⟩))
               | (refine ⟨_, ⟨f11, by simp [go_sem, h2', h20', hp']⟩, ?_⟩; (first | refine hK _ ?_ | refine hK _ _ ?_ | refine ⟨by simp [go_sem, h2', h20', hp'], hK _ ?_⟩ | refine ⟨by simp [go_sem, h2', h20', hp'], hK _ _ ?_⟩ | refine ⟨by simp [go_sem, h2', h20', hp'], by simp [go_sem, h2', h20', hp'], hK _ _ ?_⟩))
               | (refine ⟨_, fun _ => f11, ?_⟩; (first | refine hK _ ?_ | refine hK _ _ ?_ | refine ⟨by simp [go_sem, h2', h20', hp'], hK _ ?_⟩ | refine ⟨by simp [go_sem, h2', h20', hp'], hK _ _ ?_⟩ | refine ⟨by simp [go_sem, h2', h20', hp'], by simp [go_sem, h2', h20', hp'], hK _ _ ?_⟩))
               | (refine ⟨_, fun hc => ⟨hc, f11⟩, ?_⟩; (first | refine hK _ ?_ | refine hK _ _ ?_ | refine ⟨by simp [go_sem, h2', h20', hp'], hK _ ?_⟩ | refine ⟨by simp [go_sem, h2', h20', hp'], hK _ _ ?_⟩ | refine ⟨by simp [go_sem, h2', h20', hp'], by simp [go_sem, h2', h20', hp'], hK _ _ ?_⟩))
               | (refine ⟨_, fun hc => ⟨f11, by simp [go_sem, h2', h20', hp']⟩, ?_⟩; (first | refine hK _ ?_ | refine hK _ _ ?_ | refine ⟨by simp [go_sem, h2', h20', hp'], hK _ ?_⟩ | refine ⟨by simp [go_sem, h2', h20', hp'], hK _ _ ?_⟩ | refine ⟨by simp [go_sem, h2', h20', hp'], by simp [go_sem, h2', h20', hp'], hK _ _ ?_⟩))
               | (refine ⟨_, fun hc => ⟨hc, f11, by simp [go_sem, h2', h20', hp']⟩, ?_⟩; (first | refine hK _ ?_ | refine hK _ _ ?_ | refine ⟨by simp [go_sem, h2', h20', hp'], hK _ ?_⟩ | refine ⟨by simp [go_sem, h2', h20', hp'], hK _ _ ?_⟩ | refine ⟨by simp [go_sem, h2', h20', hp'], by simp [go_sem, h2', h20', hp'], hK _ _ ?_⟩))
               | (refine ⟨_, f22 l (by omega), ?_⟩; (first | refine hK _ ?_ | refine hK _ _ ?_ | refine ⟨by simp [go_sem, h2', h20', hp'], hK _ ?_⟩ | refine ⟨by simp [go_sem, h2', h20', hp'], hK _ _ ?_⟩ | refine ⟨by simp [go_sem, h2', h20', hp'], by simp [go_sem, h2', h20', hp'], hK _ _ ?_⟩))
               | (refine .inl ⟨_, f22 l (by omega), ?_⟩; (first | refine hK _ ?_ | refine hK _ _ ?_ | refine ⟨by simp [go_sem, h2', h20', hp'], hK _ ?_⟩ | refine ⟨by simp [go_sem, h2', h20', hp'], hK _ _ ?_⟩ | refine ⟨by simp [go_sem, h2', h20', hp'], by simp [go_sem, h2', h20', hp'], hK _ _ ?_⟩))
               | (refine .inr ⟨_, f22 l (by omega), ?_⟩; (first | refine hK _ ?_ | refine hK _ _ ?_ | refine ⟨by simp [go_sem, h2', h20', hp'], hK _ ?_⟩ | refine ⟨by simp [go_sem, h2', h20', hp'], hK _ _ ?_⟩ | refine ⟨by simp [go_sem, h2', h20', hp'], by simp [go_sem, h2', h20', hp'], hK _ _ ?_⟩))
               | (refine ⟨_, ⟨f22 l (by omega), by simp [go_sem, h2', h20', hp']⟩, ?_⟩; (first | refine hK _ ?_ | refine hK _ _ ?_ | refine ⟨by simp [go_sem, h2', h20', hp'], hK _ ?_⟩ | refine ⟨by simp [go_sem, h2', h20', hp'], hK _ _ ?_⟩ | refine ⟨by simp [go_sem, h2', h20', hp'], by simp [go_sem, h2', h20', hp'], hK _ _ ?_⟩))
               | (refine ⟨_, fun _ => f22 l (by omega), ?_⟩; (first | refine hK _ ?_ | refine hK _ _ ?_ | refine ⟨by simp [go_sem, h2', h20', hp'], hK _ ?_⟩ | refine ⟨by simp [go_sem, h2', h20', hp'], hK _ _ ?_⟩ | refine ⟨by simp [go_sem, h2', h20', hp'], by simp [go_sem, h2', h20', hp'], hK _ _ ?_⟩))
               | (refine ⟨_, fun hc => ⟨hc, f22 l (by omega)⟩, ?_⟩; (first | refine hK _ ?_ | refine hK _ _ ?_ | refine ⟨by simp [go_sem, h2', h20', hp'], hK _ ?_⟩ | refine ⟨by simp [go_sem, h2', h20', hp'], hK _ _ ?_⟩ | refine ⟨by simp [go_sem, h2', h20', hp'], by simp [go_sem, h2', h20', hp'], hK _ _ ?_⟩))
               | (refine ⟨_, fun hc => ⟨f22 l (by omega), by simp [go_sem, h2', h20', hp']⟩, ?_⟩; (first | refine hK _ ?_ | refine hK _ _ ?_ | refine ⟨by simp [go_sem, h2', h20', hp'], hK _ ?_⟩ | refine ⟨by simp [go_sem, h2', h20', hp'], hK _ _ ?_⟩ | refine ⟨by simp [go_sem, h2', h20', hp'], by simp [go_sem, h2', h20', hp'], hK _ _ ?_⟩))
               | (refine ⟨_, fun hc => ⟨hc, f22 l (by omega), by simp [go_sem, h2', h20', hp']⟩, ?_⟩; (first | refine hK _ ?_ | refine hK _ _ ?_ | refine ⟨by simp [go_sem, h2', h20', hp'], hK _ ?_⟩ | refine ⟨by simp [go_sem, h2', h20', hp'], hK _ _ ?_⟩ | refine ⟨by simp [go_sem, h2', h20', hp'], by simp [go_sem, h2', h20', hp'], hK _ _ ?_⟩))
               | refine ⟨.one (.one (.bool false)), by simp [go_sem, h2', h20', hp'], hK _ _ ?_⟩
               | refine ⟨by (first | (simp [appendOk, flatEls, h2', h20', hp']; done) | (simp [appendOk, flatEls, h2', h20', hp']; omega)), hK _ ?_⟩
               | refine ⟨hK _ ?_, fun h => hK _ ?_⟩
               | refine ⟨by omega, hK _ ?_⟩
               | refine ⟨by omega, hK _ _ ?_⟩
               | refine ⟨?_, hK _ ?_⟩
               | refine ⟨?_, hK _ _ ?_⟩
             all_goals clear hK K)
        simp [go_sem]
    · have h20' : (20 : Int) < (l.length : Int) := by omega
      repeat' first
        | with_reducible first | refine awp_seq ?_ | refine awp_reg ?_ | refine awp_block ?_ | refine awp_ret ?_ | refine awp_exit ?_ | refine awp_skip ?_ | refine awp_scp ?_ | refine scpQ_normal ?_ | refine scpQ_ret ?_ | refine scpQ_exit ?_ | refine seqQ_normal ?_ | refine seqQ_ret ?_ | refine seqQ_exit ?_ | refine blockQ_normal ?_ | refine blockQ_ret ?_ | refine blockQ_same ?_ | refine blockQ_other (by decide) ?_ | refine loopQ_ret ?_ | refine loopQ_exit ?_ | refine arun_nil ?_ | refine arunA_nil ?_ | refine arunB_nil ?_ | refine drwQ_intro ?_ | refine deadQ_nil ?_
        | ((with_reducible refine awp_cond2 (t := ?_) ?hc (fun h => ?_) (fun h => ?_))
           case hc => rfl
           all_goals (try simp [go_sem, h2', h20'] at h)
           all_goals try omega)
        | ((with_reducible first | refine arun_cons fun K hK => ?_ | refine arunA_cons fun K hK => ?_ | refine arunB_cons fun K hK => ?_ | refine awp_drw fun K hK => ?_ | refine deadQ_some fun K hK => ?_ | refine pruneQ_intro fun K hK => ?_)
           simp [go_sem, h2', h20']
           try simp (disch := omega) only [wrap_i64, okRefs, eq_self, true_and]
           first
             | refine hK _ ?_
             | refine hK _ _ ?_
             | (refine ⟨_, f11, ?_⟩; (first | refine hK _ ?_ | refine hK _ _ ?_ | refine ⟨by simp [go_sem, h2', h20'], hK _ ?_⟩ | refine ⟨by simp [go_sem, h2', h20'], hK _ _ ?_⟩ | refine ⟨by simp [go_sem, h2', h20'], by simp [go_sem, h2', h20'], hK _ _ ?_⟩))
             | (refine .inl ⟨_, f11, ?_⟩; (first | refine hK _ ?_ | refine hK _ _ ?_ | refine ⟨by simp [go_sem, h2', h20'], hK _ ?_⟩ | refine ⟨by simp [go_sem, h2', h20'], hK _ _ ?_⟩ | refine ⟨by simp [go_sem, h2', h20'], by simp [go_sem, h2', h20'], hK _ _ ?_⟩))
             | (refine .inr ⟨_, f11, ?_⟩; (first | refine hK _ ?_ | refine hK _ _ ?_ | refine ⟨by simp [go_sem, h2', h20'], hK _ ?_⟩ | refine ⟨by simp [go_sem, h2', h20'], hK _ _ ?_⟩ | refine ⟨by simp [go_sem, h2', h20'], by simp [go_sem, h2', h20'], hK _ _ ?_⟩))
             | (refine ⟨_, ⟨f11, by simp [go_sem, h2', h20']⟩, ?_⟩; (first | refine hK _ ?_ | refine hK _ _ ?_ | refine ⟨by simp [go_sem, h2', h20'], hK _ ?_⟩ | refine ⟨by simp [go_sem, h2', h20'], hK _ _ ?_⟩ | refine ⟨by simp [go_sem, h2', h20'], by simp [go_sem, h2', h20'], hK _ _ ?_⟩))
             | (refine ⟨_, fun _ => f11, ?_⟩; (first | refine hK _ ?_ | refine hK _ _ ?_ | refine ⟨by simp [go_sem, h2', h20'], hK _ ?_⟩ | refine ⟨by simp [go_sem, h2', h20'], hK _ _ ?_⟩ | refine ⟨by simp [go_sem, h2', h20'], by simp [go_sem, h2', h20'], hK _ _ ?_⟩))
             | (refine ⟨_, fun hc => ⟨hc, f11⟩, ?_⟩; (first | refine hK _ ?_ | refine hK _ _ ?_ | refine ⟨by simp [go_sem, h2', h20'], hK _ ?_⟩ | refine ⟨by simp [go_sem, h2', h20'], hK _ _ ?_⟩ | refine ⟨by simp [go_sem, h2', h20'], by simp [go_sem, h2', h20'], hK _ _ ?_⟩))
             | (refine ⟨_, fun hc => ⟨f11, by simp [go_sem, h2', h20']⟩, ?_⟩; (first | refine hK _ ?_ | refine hK _ _ ?_ | refine ⟨by simp [go_sem, h2', h20'], hK _ ?_⟩ | refine ⟨by simp [go_sem, h2', h20'], hK _ _ ?_⟩ | refine ⟨by simp [go_sem, h2', h20'], by simp [go_sem, h2', h20'], hK _ _ ?_⟩))
             | (refine ⟨_, fun hc => ⟨hc, f11, by simp [go_sem, h2', h20']⟩, ?_⟩; (first | refine hK _ ?_ | refine hK _ _ ?_ | refine ⟨by simp [go_sem, h2', h20'], hK _ ?_⟩ | refine ⟨by simp [go_sem, h2', h20'], hK _ _ ?_⟩ | refine ⟨by simp [go_sem, h2', h20'], by simp [go_sem, h2', h20'], hK _ _ ?_⟩))
             | refine ⟨.one (.one (.bool false)), by simp [go_sem, h2', h20'], hK _ _ ?_⟩
             | refine ⟨by (first | (simp [appendOk, flatEls, h2', h20']; done) | (simp [appendOk, flatEls, h2', h20']; omega)), hK _ ?_⟩
             | refine ⟨hK _ ?_, fun h => hK _ ?_⟩
             | refine ⟨by omega, hK _ ?_⟩
             | refine ⟨by omega, hK _ _ ?_⟩
             | refine ⟨?_, hK _ ?_⟩
             | refine ⟨?_, hK _ _ ?_⟩
           all_goals clear hK K)
      simp [go_sem]
end Go.Av
