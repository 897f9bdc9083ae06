/- The law VersionsCompare returns true. -/
import Derived.Test.YtpdfolkoejbbgaaGreatDoorCB19
import Derived.Test.YtpdfolkoejbbgaaGreatDoorCB11
set_option linter.unusedVariables false
set_option linter.unusedSimpArgs false
set_option maxHeartbeats 64000000
set_option maxRecDepth 8000
namespace Go.Av
open Go Go.RowKit Go.Proofs
theorem medG_no : MedG noG := by
 constructor <;> simp [noG]
theorem compare_med (a b : Glob) (sa : Small a) (sb : Small b) : MedG (compareV a b).1.old /\ MedG (compareV a b).1.new /\ (compareV a b).1.labels.length <= 1000000 /\ (compareV a b).1.pairs.length <= 1000000 /\ (compareV a b).1.pairs.length = (compareV a b).1.good.length := by
 rcases compareV_cases a b with ⟨c, hc, _⟩ | ⟨hc, hn, _⟩
 ·rw [hc]
  exact ⟨medG_no, medG_no, by simp [noTab], by simp [noTab], rfl⟩
 ·rw [hc]
  refine ⟨medG_small sa, medG_small sb, ?_, Nat.le_trans (pairs_len hn) (by decide), (good_len _ _).symm⟩
  show (a.decls.map (labAt b)).length <= _
  rw [List.length_map]
  have := sa.decls
  omega
theorem f4 (h109 : H109) (a b : Glob) (ha : GlobA a) (hb : GlobA b) : Impl Tryz.prog 4 [.ag (encG a), .ag (encG b)] (.one (.one (.bool true))) := by
 have k16 := f16 h109
 have k17a := f17 a ha.1 (fun d hd => (ha.2 d hd).2)
 have k17b := f17 b hb.1 (fun d hd => (hb.2 d hd).2)
 simp only [encG] at k17a k17b
 refine impl_w Tryz.func4 z4 Tryz.ntmps4 (by simp) ?_
 simp only [slotsOf]
 conv => arg 2; reduce
 cases fa : few31 a with
 | false =>
   rw [fa] at k17a
   repeat' first | refine St.go ?_ | ((with_reducible refine cn ?_ ?_) <;> intro h <;> (try simp at h) <;> try omega) | (refine Ru.go ?_; intro K hK; simp [go_sem, encG]; (try simp (disch := omega) only [wx, z_i]); (first | apply hK | ((try refine .inl ?_); refine ⟨_, by (try intro hc); (repeat' first | exact k16 | exact k17a | exact hc | refine And.intro ?_ ?_ | simp [go_sem, encG]); first | done | omega, ?_⟩; first | apply hK | (refine ⟨by simp [go_sem, encG], ?_⟩; first | apply hK | refine ⟨by simp [go_sem, encG], hK _ _ ?_⟩)) | refine ⟨.one (.one (.bool false)), by simp [go_sem, encG], hK _ _ ?_⟩ | refine ⟨ob, ?_⟩ | refine ⟨hK _ ?_, fun h => ?_⟩ | refine ⟨?_, ?_⟩); all_goals ((try apply hK); clear hK K))
   simp [go_sem]
 | true =>
   rw [fa] at k17a
   cases fb : few31 b with
   | false =>
     rw [fb] at k17b
     repeat' first | refine St.go ?_ | ((with_reducible refine cn ?_ ?_) <;> intro h <;> (try simp at h) <;> try omega) | (refine Ru.go ?_; intro K hK; simp [go_sem, encG]; (try simp (disch := omega) only [wx, z_i]); (first | apply hK | ((try refine .inl ?_); refine ⟨_, by (try intro hc); (repeat' first | exact k16 | exact k17a | exact k17b | exact hc | refine And.intro ?_ ?_ | simp [go_sem, encG]); first | done | omega, ?_⟩; first | apply hK | (refine ⟨by simp [go_sem, encG], ?_⟩; first | apply hK | refine ⟨by simp [go_sem, encG], hK _ _ ?_⟩)) | refine ⟨.one (.one (.bool false)), by simp [go_sem, encG], hK _ _ ?_⟩ | refine ⟨ob, ?_⟩ | refine ⟨hK _ ?_, fun h => ?_⟩ | refine ⟨?_, ?_⟩); all_goals ((try apply hK); clear hK K))
     simp [go_sem]
   | true =>
     rw [fb] at k17b
     have sa := few31_small (g := a) fa fun d hd => (ha.2 d hd).1
     have sb := few31_small (g := b) fb fun d hd => (hb.2 d hd).1
     have k18 := f18 h109 a b sa sb
     have k19 := f19 a b sa sb
     obtain ⟨m1, m2, m3, m4, m5⟩ := compare_med a b sa sb
     have k20 := f20 (compareV a b).1 (compareV a b).1 m1 m2 m1 m2 m3 m4 m3 m4 m5
     rw [decide_eq_true rfl] at k20
     have k21 := f21 (compareV a b).1
     clear m1 m2 m3 m4 m5
     generalize compareV a b = v at *
     obtain ⟨⟨o, w, ls, ps, gd⟩, c⟩ := v
     simp only [encTab, encG, List.cons_append, List.nil_append] at k18 k19 k20 k21
     repeat' first | refine St.go ?_ | ((with_reducible refine cn ?_ ?_) <;> intro h <;> (try simp at h) <;> try omega) | (refine Ru.go ?_; intro K hK; simp [go_sem, encG]; (try simp (disch := omega) only [wx, z_i]); (first | apply hK | ((try refine .inl ?_); refine ⟨_, by (try intro hc); (repeat' first | exact k16 | exact k17a | exact k17b | exact k18 | exact k19 | exact k20 | exact k21 | exact hc | refine And.intro ?_ ?_ | simp [go_sem, encG]); first | done | omega, ?_⟩; first | apply hK | (refine ⟨by simp [go_sem, encG], ?_⟩; first | apply hK | refine ⟨by simp [go_sem, encG], hK _ _ ?_⟩)) | refine ⟨.one (.one (.bool false)), by simp [go_sem, encG], hK _ _ ?_⟩ | refine ⟨ob, ?_⟩ | refine ⟨hK _ ?_, fun h => ?_⟩ | refine ⟨?_, ?_⟩); all_goals ((try apply hK); clear hK K))
     simp [go_sem]
end Go.Av
