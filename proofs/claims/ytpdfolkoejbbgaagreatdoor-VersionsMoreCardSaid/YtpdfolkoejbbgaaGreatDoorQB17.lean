/- The law VersionsSame returns true. -/
import Derived.Test.YtpdfolkoejbbgaaGreatDoorQB16
set_option linter.unusedVariables false
set_option linter.unusedSimpArgs false
set_option maxHeartbeats 64000000
namespace Go.Av
open Go Go.RowKit Go.Proofs
set_option maxRecDepth 8000
theorem f6 (h109 : H109) (g : Glob) (ha : GlobA g) : Impl Tryz.prog 6 [.ag (encG g)] (.one (.one (.bool true))) := by
 have k16 := f16 h109
 have k17 := f17 g ha.1 (fun d hd => (ha.2 d hd).2)
 simp only [encG] at k17
 refine impl_w Tryz.func6 z6 Tryz.ntmps6 (by simp) ?_
 simp only [slotsOf]
 conv => arg 2; reduce
 cases fa : few31 g with
 | false =>
   rw [fa] at k17
   repeat' first | refine St.go ?_ | ((with_reducible refine z_Y (t := ?_) ?hc (fun h => ?_) (fun h => ?_)); (case hc => rfl); all_goals (try simp [go_sem, encG] at h); all_goals try omega) | (refine Ru.go ?_; intro K hK; simp [go_sem, encG]; (try simp (disch := omega) only [z_h, z_i, eq_self, true_and]); (first | apply hK | ((try refine .inl ?_); refine ⟨_, by (try intro hc); (repeat' first | exact k16 | exact k17 | exact hc | refine And.intro ?_ ?_ | simp [go_sem, encG]); first | done | omega, ?_⟩; first | apply hK | (refine ⟨by simp [go_sem, encG], ?_⟩; first | apply hK | refine ⟨by simp [go_sem, encG], hK _ _ ?_⟩)) | refine ⟨.one (.one (.bool false)), by simp [go_sem, encG], hK _ _ ?_⟩ | refine ⟨by first | omega | (simp [z_f, z_g, encG]; first | done | omega), ?_⟩ | refine ⟨hK _ ?_, fun h => ?_⟩ | refine ⟨?_, ?_⟩); all_goals ((try apply hK); clear hK K))
   simp [go_sem]
 | true =>
   rw [fa] at k17
   have sg := few31_small (g := g) fa fun d hd => (ha.2 d hd).1
   have k26 := f26 g sg
   rw [<- valid_eq] at k26
   simp only [encG] at k26
   cases hv : valid29 g with
   | false =>
     rw [hv] at k26
     repeat' first | refine St.go ?_ | ((with_reducible refine z_Y (t := ?_) ?hc (fun h => ?_) (fun h => ?_)); (case hc => rfl); all_goals (try simp [go_sem, encG] at h); all_goals try omega) | (refine Ru.go ?_; intro K hK; simp [go_sem, encG]; (try simp (disch := omega) only [z_h, z_i, eq_self, true_and]); (first | apply hK | ((try refine .inl ?_); refine ⟨_, by (try intro hc); (repeat' first | exact k16 | exact k17 | exact k26 | exact hc | refine And.intro ?_ ?_ | simp [go_sem, encG]); first | done | omega, ?_⟩; first | apply hK | (refine ⟨by simp [go_sem, encG], ?_⟩; first | apply hK | refine ⟨by simp [go_sem, encG], hK _ _ ?_⟩)) | refine ⟨.one (.one (.bool false)), by simp [go_sem, encG], hK _ _ ?_⟩ | refine ⟨by first | omega | (simp [z_f, z_g, encG]; first | done | omega), ?_⟩ | refine ⟨hK _ ?_, fun h => ?_⟩ | refine ⟨?_, ?_⟩); all_goals ((try apply hK); clear hK K))
     simp [go_sem]
   | true =>
     rw [hv] at k26
     have k18 := f18 h109 g g sg sg
     rw [compare_self hv] at k18
     have hn := numbered_facts (valid_num hv).1
     have hpl : (((cmpTab g g).pairs.length : Nat) : Int) = g.states := by
      have := len_self hv
      have hh : (cmpTab g g).pairs.length = g.states.toNat := this
      omega
     have hgl : (cmpTab g g).good.length = (cmpTab g g).pairs.length := good_len _ _
     have hpd : ∀ p ∈ (cmpTab g g).pairs, p.1 = p.2 := pairs_self hv
     have hgd : ∀ i (h : i < (cmpTab g g).good.length), (cmpTab g g).good[i] = true := fun i h => by
      have h1 := good_self hv (i := i) h
      exact (List.getElem?_eq_some_iff.1 h1).2
     generalize cmpTab g g = T at *
     obtain ⟨o, w, ls, ps, gd⟩ := T
     simp only at hpl hgl hpd hgd
     have hgl' : ((gd.length : Nat) : Int) = g.states := by omega
     simp only [encTab, encG, List.cons_append, List.nil_append] at k18
     repeat' first | refine St.go ?_ | ((with_reducible refine z_Y (t := ?_) ?hc (fun h => ?_) (fun h => ?_)); (case hc => rfl); all_goals (try simp [go_sem, encG, hpl, hgl'] at h); all_goals try omega) | (refine Ru.go ?_; intro K hK; simp [go_sem, encG, hpl, hgl']; (try simp (disch := omega) only [z_h, z_i, eq_self, true_and]); (first | apply hK | ((try refine .inl ?_); refine ⟨_, by (try intro hc); (repeat' first | exact k16 | exact k17 | exact k26 | exact k18 | exact hc | refine And.intro ?_ ?_ | simp [go_sem, encG, hpl, hgl']); first | done | omega, ?_⟩; first | apply hK | (refine ⟨by simp [go_sem, encG, hpl, hgl'], ?_⟩; first | apply hK | refine ⟨by simp [go_sem, encG, hpl, hgl'], hK _ _ ?_⟩)) | refine ⟨.one (.one (.bool false)), by simp [go_sem, encG, hpl, hgl'], hK _ _ ?_⟩ | refine ⟨by first | omega | (simp [z_f, z_g, encG, hpl, hgl']; first | done | omega), ?_⟩ | refine ⟨hK _ ?_, fun h => ?_⟩ | refine ⟨?_, ?_⟩); all_goals ((try apply hK); clear hK K))
     refine z_k (fun n e => ∃ k : Nat, k + n = ps.length /\ e = [(47, .sv (.one (.int .i64 k))), (46, .sv (.one (.int .i64 ps.length))), (45, .sv (.one (.sl (ps.map encEq)))), (3, .sv (.one (.bx (encTab ⟨o, w, ls, ps, gd⟩))))]) ps.length _ ⟨0, by simp, by simp [hpl]; rfl⟩ (by simp [go_sem, encTab, encG, encEq]) ?_
     rintro n e ⟨k, hk, rfl⟩
     by_cases hlt : k < ps.length
     ·obtain ⟨⟨p1, p2⟩, hp⟩ : ∃ p, ps[k] = p := ⟨_, rfl⟩
      have hpe : p1 = p2 := by
       have := hpd ps[k] (List.getElem_mem hlt)
       rw [hp] at this
       exact this
      subst hpe
      have hlg : k < gd.length := by omega
      have hgk := hgd k hlg
      repeat' first | refine St.go ?_ | ((with_reducible refine z_Y (t := ?_) ?hc (fun h => ?_) (fun h => ?_)); (case hc => rfl); all_goals (try simp [go_sem, hlt, hlg, hp, hgk, encEq, encBl, encTab, encG] at h); all_goals try omega) | (refine Ru.go ?_; intro K hK; simp [go_sem, hlt, hlg, hp, hgk, encEq, encBl, encTab, encG]; (try simp (disch := omega) only [z_h, z_i, eq_self, true_and]); (first | apply hK | refine ⟨by first | omega | (simp [z_f, z_g, hlt, hlg, hp, hgk, encEq, encBl, encTab, encG]; first | done | omega), ?_⟩ | refine ⟨hK _ ?_, fun h => ?_⟩ | refine ⟨?_, ?_⟩); all_goals ((try apply hK); clear hK K))
      refine z_j (n - 1) _ (by omega) ⟨k + 1, by omega, rfl⟩ ?_
      simp [go_sem, encEq, encTab, encG]
     ·skip
      repeat' first | refine St.go ?_ | ((with_reducible refine z_Y (t := ?_) ?hc (fun h => ?_) (fun h => ?_)); (case hc => rfl); all_goals (try simp [go_sem, hlt] at h); all_goals try omega) | (refine Ru.go ?_; intro K hK; simp [go_sem, hlt]; (try simp (disch := omega) only [z_h, z_i, eq_self, true_and]); (first | apply hK | refine ⟨by first | omega | (simp [z_f, z_g, hlt]; first | done | omega), ?_⟩ | refine ⟨hK _ ?_, fun h => ?_⟩ | refine ⟨?_, ?_⟩); all_goals ((try apply hK); clear hK K))
      simp [go_sem]
end Go.Av
