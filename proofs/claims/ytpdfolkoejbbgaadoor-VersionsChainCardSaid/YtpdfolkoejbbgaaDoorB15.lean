/- The law VersionsChain returns true. -/
import Derived.Test.YtpdfolkoejbbgaaDoorB13
set_option linter.unusedVariables false
set_option linter.unusedSimpArgs false
set_option maxHeartbeats 4000000
namespace Go.Av
open Go Go.RowKit Go.Proofs
set_option maxRecDepth 8000
set_option maxHeartbeats 16000000 in
theorem f4 (h109 : H109) (a b c : Glob) (ha : GlobA a) (hb : GlobA b) (hc : GlobA c) : Impl Tryd.prog 4 [.ag (encG a), .ag (encG b), .ag (encG c)] (.one (.one (.bool true))) := by
 have k5 := f5 h109
 have k6a := f6 a ha.1 (fun d hd => (ha.2 d hd).2)
 have k6b := f6 b hb.1 (fun d hd => (hb.2 d hd).2)
 have k6c := f6 c hc.1 (fun d hd => (hc.2 d hd).2)
 simp only [encG] at k6a k6b k6c
 refine impl_z Tryd.func4 z4 Tryd.ntmps4 (by simp) ?_
 simp only [c4, slotsOf]
 by_cases hf : few31 a = true ∧ few31 b = true ∧ few31 c = true
 rotate_left
 ·cases fa : few31 a with
  | false =>
    rw [fa] at k6a
    repeat' first | refine St.go ?_ | ((with_reducible refine zY (t := ?_) ?hc (fun h => ?_) (fun h => ?_)); (case hc => rfl); all_goals (try simp [go_sem, encG] at h); all_goals try omega) | (refine Ru.go ?_; intro K hK; simp [go_sem, encG]; (first | apply hK | ((try refine .inl ?_); refine ⟨_, by (try intro hc); (repeat' first | exact k5 | exact k6a | exact hc | refine And.intro ?_ ?_ | simp [go_sem, encG]); first | done | omega, ?_⟩; first | apply hK | (refine ⟨by simp [go_sem, encG], ?_⟩; first | apply hK | refine ⟨by simp [go_sem, encG], hK _ _ ?_⟩)) | refine ⟨.one (.one (.bool false)), by simp [go_sem, encG], hK _ _ ?_⟩ | refine ⟨by first | omega | (simp [zf, zg, encG]; first | done | omega), ?_⟩ | refine ⟨hK _ ?_, fun h => ?_⟩ | refine ⟨?_, ?_⟩); all_goals ((try apply hK); clear hK K))
    simp [go_sem]
  | true =>
    rw [fa] at k6a
    cases fb : few31 b with
    | false =>
      rw [fb] at k6b
      repeat' first | refine St.go ?_ | ((with_reducible refine zY (t := ?_) ?hc (fun h => ?_) (fun h => ?_)); (case hc => rfl); all_goals (try simp [go_sem, encG] at h); all_goals try omega) | (refine Ru.go ?_; intro K hK; simp [go_sem, encG]; (first | apply hK | ((try refine .inl ?_); refine ⟨_, by (try intro hc); (repeat' first | exact k5 | exact k6a | exact k6b | exact hc | refine And.intro ?_ ?_ | simp [go_sem, encG]); first | done | omega, ?_⟩; first | apply hK | (refine ⟨by simp [go_sem, encG], ?_⟩; first | apply hK | refine ⟨by simp [go_sem, encG], hK _ _ ?_⟩)) | refine ⟨.one (.one (.bool false)), by simp [go_sem, encG], hK _ _ ?_⟩ | refine ⟨by first | omega | (simp [zf, zg, encG]; first | done | omega), ?_⟩ | refine ⟨hK _ ?_, fun h => ?_⟩ | refine ⟨?_, ?_⟩); all_goals ((try apply hK); clear hK K))
      simp [go_sem]
    | true =>
      rw [fb] at k6b
      have fc : few31 c = false := by
       cases h : few31 c
       ·rfl
       ·exact (hf ⟨fa, fb, h⟩).elim
      rw [fc] at k6c
      repeat' first | refine St.go ?_ | ((with_reducible refine zY (t := ?_) ?hc (fun h => ?_) (fun h => ?_)); (case hc => rfl); all_goals (try simp [go_sem, encG] at h); all_goals try omega) | (refine Ru.go ?_; intro K hK; simp [go_sem, encG]; (first | apply hK | ((try refine .inl ?_); refine ⟨_, by (try intro hc); (repeat' first | exact k5 | exact k6a | exact k6b | exact k6c | exact hc | refine And.intro ?_ ?_ | simp [go_sem, encG]); first | done | omega, ?_⟩; first | apply hK | (refine ⟨by simp [go_sem, encG], ?_⟩; first | apply hK | refine ⟨by simp [go_sem, encG], hK _ _ ?_⟩)) | refine ⟨.one (.one (.bool false)), by simp [go_sem, encG], hK _ _ ?_⟩ | refine ⟨by first | omega | (simp [zf, zg, encG]; first | done | omega), ?_⟩ | refine ⟨hK _ ?_, fun h => ?_⟩ | refine ⟨?_, ?_⟩); all_goals ((try apply hK); clear hK K))
      simp [go_sem]
 obtain ⟨fa, fb, fc⟩ := hf
 rw [fa] at k6a
 rw [fb] at k6b
 rw [fc] at k6c
 have sa := few31_small (g := a) fa fun d hd => (ha.2 d hd).1
 have sb := few31_small (g := b) fb fun d hd => (hb.2 d hd).1
 have sc := few31_small (g := c) fc fun d hd => (hc.2 d hd).1
 have k7a := f7 h109 a b sa sb
 have k7b := f7 h109 b c sb sc
 have k7c := f7 h109 a c sa sc
 have hch : (compareV a b).2 = 0 → (compareV b c).2 = 0 → (compareV a c).2 = 0 → ∃ g1 g2 g3 r1 r2 r3, (compareV a b).1.good = g1 :: r1 ∧ (compareV b c).1.good = g2 :: r2 ∧ (compareV a c).1.good = g3 :: r3 ∧ (g1 = true → g2 = true → g3 = true) := by
  intro h1 h2 h3
  rcases compareV_cases a b with ⟨x, hx, hne⟩ | ⟨hx1, hn1, _⟩
  ·rw [hx] at h1; exact (hne h1).elim
  rcases compareV_cases b c with ⟨x, hx, hne⟩ | ⟨hx2, hn2, _⟩
  ·rw [hx] at h2; exact (hne h2).elim
  rcases compareV_cases a c with ⟨x, hx, hne⟩ | ⟨hx3, hn3, _⟩
  ·rw [hx] at h3; exact (hne h3).elim
  rw [hx1, hx2, hx3]
  have hne : ∀ u v : Glob, ∃ g r, (cmpTab u v).good = g :: r := by
   intro u v
   have h1 : (cmpTab u v).good.length = (cmpTab u v).pairs.length := good_len _ _
   have h2 := (List.getElem?_eq_some_iff.1 (pairs_zero (tab0 u v))).1
   have h3 : 0 < (cmpTab u v).good.length := by rw [h1]; exact h2
   cases hg : (cmpTab u v).good with
   | nil => rw [hg] at h3; simp at h3
   | cons g r => exact ⟨g, r, rfl⟩
  obtain ⟨g1, r1, e1⟩ := hne a b
  obtain ⟨g2, r2, e2⟩ := hne b c
  obtain ⟨g3, r3, e3⟩ := hne a c
  refine ⟨g1, g2, g3, r1, r2, r3, e1, e2, e3, fun t1 t2 => ?_⟩
  have := chain_good hn1 hn2 hn3 (by rw [e1, t1]; rfl) (by rw [e2, t2]; rfl)
  rw [e3] at this
  simpa using this
 generalize compareV a b = v1 at *
 generalize compareV b c = v2 at *
 generalize compareV a c = v3 at *
 obtain ⟨⟨o1, w1, l1, q1, d1⟩, e1⟩ := v1
 obtain ⟨⟨o2, w2, l2, q2, d2⟩, e2⟩ := v2
 obtain ⟨⟨o3, w3, l3, q3, d3⟩, e3⟩ := v3
 simp only at hch
 simp only [encTab, encG, List.cons_append, List.nil_append] at k7a k7b k7c
 by_cases z1 : e1 = 0
 rotate_left
 ·have z1' : (e1 != 0) = true := by simpa using z1
  repeat' first | refine St.go ?_ | ((with_reducible refine zY (t := ?_) ?hc (fun h => ?_) (fun h => ?_)); (case hc => rfl); all_goals (try simp [go_sem, encG, z1, z1'] at h); all_goals try omega) | (refine Ru.go ?_; intro K hK; simp [go_sem, encG, z1, z1']; (first | apply hK | ((try refine .inl ?_); refine ⟨_, by (try intro hc); (repeat' first | exact k5 | exact k6a | exact k6b | exact k6c | exact k7a | exact k7b | exact k7c | exact hc | refine And.intro ?_ ?_ | simp [go_sem, encG, z1, z1']); first | done | omega, ?_⟩; first | apply hK | (refine ⟨by simp [go_sem, encG, z1, z1'], ?_⟩; first | apply hK | refine ⟨by simp [go_sem, encG, z1, z1'], hK _ _ ?_⟩)) | refine ⟨.one (.one (.bool false)), by simp [go_sem, encG, z1, z1'], hK _ _ ?_⟩ | refine ⟨by first | omega | (simp [zf, zg, encG, z1, z1']; first | done | omega), ?_⟩ | refine ⟨hK _ ?_, fun h => ?_⟩ | refine ⟨?_, ?_⟩); all_goals ((try apply hK); clear hK K))
  simp [go_sem]
 by_cases z2 : e2 = 0
 rotate_left
 ·have z2' : (e2 != 0) = true := by simpa using z2
  repeat' first | refine St.go ?_ | ((with_reducible refine zY (t := ?_) ?hc (fun h => ?_) (fun h => ?_)); (case hc => rfl); all_goals (try simp [go_sem, encG, z1, z2, z2'] at h); all_goals try omega) | (refine Ru.go ?_; intro K hK; simp [go_sem, encG, z1, z2, z2']; (first | apply hK | ((try refine .inl ?_); refine ⟨_, by (try intro hc); (repeat' first | exact k5 | exact k6a | exact k6b | exact k6c | exact k7a | exact k7b | exact k7c | exact hc | refine And.intro ?_ ?_ | simp [go_sem, encG, z1, z2, z2']); first | done | omega, ?_⟩; first | apply hK | (refine ⟨by simp [go_sem, encG, z1, z2, z2'], ?_⟩; first | apply hK | refine ⟨by simp [go_sem, encG, z1, z2, z2'], hK _ _ ?_⟩)) | refine ⟨.one (.one (.bool false)), by simp [go_sem, encG, z1, z2, z2'], hK _ _ ?_⟩ | refine ⟨by first | omega | (simp [zf, zg, encG, z1, z2, z2']; first | done | omega), ?_⟩ | refine ⟨hK _ ?_, fun h => ?_⟩ | refine ⟨?_, ?_⟩); all_goals ((try apply hK); clear hK K))
  simp [go_sem]
 by_cases z3 : e3 = 0
 rotate_left
 ·have z3' : (e3 != 0) = true := by simpa using z3
  repeat' first | refine St.go ?_ | ((with_reducible refine zY (t := ?_) ?hc (fun h => ?_) (fun h => ?_)); (case hc => rfl); all_goals (try simp [go_sem, encG, z1, z2, z3, z3'] at h); all_goals try omega) | (refine Ru.go ?_; intro K hK; simp [go_sem, encG, z1, z2, z3, z3']; (first | apply hK | ((try refine .inl ?_); refine ⟨_, by (try intro hc); (repeat' first | exact k5 | exact k6a | exact k6b | exact k6c | exact k7a | exact k7b | exact k7c | exact hc | refine And.intro ?_ ?_ | simp [go_sem, encG, z1, z2, z3, z3']); first | done | omega, ?_⟩; first | apply hK | (refine ⟨by simp [go_sem, encG, z1, z2, z3, z3'], ?_⟩; first | apply hK | refine ⟨by simp [go_sem, encG, z1, z2, z3, z3'], hK _ _ ?_⟩)) | refine ⟨.one (.one (.bool false)), by simp [go_sem, encG, z1, z2, z3, z3'], hK _ _ ?_⟩ | refine ⟨by first | omega | (simp [zf, zg, encG, z1, z2, z3, z3']; first | done | omega), ?_⟩ | refine ⟨hK _ ?_, fun h => ?_⟩ | refine ⟨?_, ?_⟩); all_goals ((try apply hK); clear hK K))
  simp [go_sem]
 obtain ⟨g1, g2, g3, r1, r2, r3, u1, u2, u3, hg⟩ := hch z1 z2 z3
 subst z1
 subst z2
 subst z3
 subst u1
 subst u2
 subst u3
 simp only [List.map_cons] at k7a k7b k7c
 cases g1 with
 | false =>
   repeat' first | refine St.go ?_ | ((with_reducible refine zY (t := ?_) ?hc (fun h => ?_) (fun h => ?_)); (case hc => rfl); all_goals (try simp [go_sem, encG, encBl] at h); all_goals try omega) | (refine Ru.go ?_; intro K hK; simp [go_sem, encG, encBl]; (first | apply hK | ((try refine .inl ?_); refine ⟨_, by (try intro hc); (repeat' first | exact k5 | exact k6a | exact k6b | exact k6c | exact k7a | exact k7b | exact k7c | exact hc | refine And.intro ?_ ?_ | simp [go_sem, encG, encBl]); first | done | omega, ?_⟩; first | apply hK | (refine ⟨by simp [go_sem, encG, encBl], ?_⟩; first | apply hK | refine ⟨by simp [go_sem, encG, encBl], hK _ _ ?_⟩)) | refine ⟨.one (.one (.bool false)), by simp [go_sem, encG, encBl], hK _ _ ?_⟩ | refine ⟨by first | omega | (simp [zf, zg, encG, encBl]; first | done | omega), ?_⟩ | refine ⟨hK _ ?_, fun h => ?_⟩ | refine ⟨?_, ?_⟩); all_goals ((try apply hK); clear hK K))
   simp [go_sem]
 | true =>
   cases g2 with
   | false =>
     repeat' first | refine St.go ?_ | ((with_reducible refine zY (t := ?_) ?hc (fun h => ?_) (fun h => ?_)); (case hc => rfl); all_goals (try simp [go_sem, encG, encBl] at h); all_goals try omega) | (refine Ru.go ?_; intro K hK; simp [go_sem, encG, encBl]; (first | apply hK | ((try refine .inl ?_); refine ⟨_, by (try intro hc); (repeat' first | exact k5 | exact k6a | exact k6b | exact k6c | exact k7a | exact k7b | exact k7c | exact hc | refine And.intro ?_ ?_ | simp [go_sem, encG, encBl]); first | done | omega, ?_⟩; first | apply hK | (refine ⟨by simp [go_sem, encG, encBl], ?_⟩; first | apply hK | refine ⟨by simp [go_sem, encG, encBl], hK _ _ ?_⟩)) | refine ⟨.one (.one (.bool false)), by simp [go_sem, encG, encBl], hK _ _ ?_⟩ | refine ⟨by first | omega | (simp [zf, zg, encG, encBl]; first | done | omega), ?_⟩ | refine ⟨hK _ ?_, fun h => ?_⟩ | refine ⟨?_, ?_⟩); all_goals ((try apply hK); clear hK K))
     simp [go_sem]
   | true =>
     have hg3 := hg rfl rfl
     subst hg3
     repeat' first | refine St.go ?_ | ((with_reducible refine zY (t := ?_) ?hc (fun h => ?_) (fun h => ?_)); (case hc => rfl); all_goals (try simp [go_sem, encG, encBl] at h); all_goals try omega) | (refine Ru.go ?_; intro K hK; simp [go_sem, encG, encBl]; (first | apply hK | ((try refine .inl ?_); refine ⟨_, by (try intro hc); (repeat' first | exact k5 | exact k6a | exact k6b | exact k6c | exact k7a | exact k7b | exact k7c | exact hc | refine And.intro ?_ ?_ | simp [go_sem, encG, encBl]); first | done | omega, ?_⟩; first | apply hK | (refine ⟨by simp [go_sem, encG, encBl], ?_⟩; first | apply hK | refine ⟨by simp [go_sem, encG, encBl], hK _ _ ?_⟩)) | refine ⟨.one (.one (.bool false)), by simp [go_sem, encG, encBl], hK _ _ ?_⟩ | refine ⟨by first | omega | (simp [zf, zg, encG, encBl]; first | done | omega), ?_⟩ | refine ⟨hK _ ?_, fun h => ?_⟩ | refine ⟨?_, ?_⟩); all_goals ((try apply hK); clear hK K))
     simp [go_sem]
end Go.Av
