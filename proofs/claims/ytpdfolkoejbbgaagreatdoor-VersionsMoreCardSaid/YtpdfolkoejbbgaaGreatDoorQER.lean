/- The statement VersionsMore: whatever the input, the law returns true and the input reads as it did. -/
import Derived.Test.YtpdfolkoejbbgaaGreatDoorQE
import Derived.Test.YtpdfolkoejbbgaaGreatDoorCards
import Derived.Test.YtpdfolkoejbbgaaGreatDoorTie
set_option linter.unusedVariables false
set_option linter.unusedSimpArgs false
set_option maxHeartbeats 64000000
namespace Go.Proofs.YtpdfolkoejbbgaaGreatDoor
open Go.ChangeShapes Go.WideShapes Go.ChangeAt Go.RowKit Go.Av
set_option maxRecDepth 100000
theorem globA {g : Glob} (h : GlobB g) : GlobA g := ⟨h.decls, h.decl⟩
theorem u8_range {m : Int} (h : (Lit.int .u8 m).wf = true) : 0 <= m /\ m <= 255 := by
 unfold Lit.wf at h
 rw [Bool.and_eq_true] at h
 have h1 := of_decide_eq_true h.1
 have h2 := of_decide_eq_true h.2
 have e1 : IntKind.u8.min = 0 := by decide
 have e2 : IntKind.u8.max = 255 := by decide
 rw [e1] at h1
 rw [e2] at h2
 exact ⟨h1, h2⟩
theorem args7 (xs : List SV) (h : ArgsOk Tryz.prog 8 Tryz.f7.params.toList xs) : Impl Tryz.prog 7 xs (.one (.one (.bool true))) := by
 rw [Tryz.params7] at h
 obtain ⟨l, x, ys, h1, h2, rfl, l', x', ys', h3, h4, rfl, l'', x'', ys'', h5, h6, rfl, rfl⟩ := h
 obtain ⟨g, rfl, hg⟩ := glob_ofB h1
 obtain ⟨s, rfl, w1⟩ := int_ofB Tryz.underlying5 h3
 obtain ⟨t, rfl, w2⟩ := int_ofB Tryz.underlying5 h5
 simp only [IsSV, Tryz.underlying27, Tryz.underlying5, List.cons.injEq, and_true] at h2 h4 h6
 obtain ⟨d, rfl, rfl⟩ := h4
 obtain ⟨d', rfl, rfl⟩ := h6
 subst h2
 exact Go.Av.f7 f109 g s t (globA hg) (u8_range w1) (u8_range w2)
theorem laid_met7 (os : Os) (args : Array Value) : laidMetH Tryz.prog Rows.versionsMoreRow.laid ((World.laidAll Tryz.prog os Rows.versionsMoreRow.laid).forCall (fun _ _ => 0) ⟨#[], args, []⟩).memory := by
 rw [MakeChecks.laidMetH_plain _ _ _ (by kernel_rfl)]
 exact laidMet_laidAll args (by kernel_rfl) (by kernel_rfl)
theorem more_lifted (os : Os) (started : os.Started) (H : Type) (enc : TypeId × Value -> H) :
  ReturnsInHanded {} Tryz.checked os 7 .any (fun w args => (Rows.versionsMoreSpec.pre enc Tryz.prog Tryz.f7 [] false w args /\ laidMetH Tryz.prog Rows.versionsMoreRow.laid w) /\ sizedMet enc Tryz.prog Tryz.f7 (OpenSpec.ofChange Rows.versionsMoreSpec) false w args)
   (Rows.versionsMoreSpec.post enc Tryz.prog Tryz.f7 false true false false) :=
 law_row_laid (C := Tryz.checked) (m := 8) (tb := 4) (X := laidMetH Tryz.prog Rows.versionsMoreRow.laid) (fun _ _ hh h => h.of_heap hh) Tryz.own started (by kernel_rfl) Tryz.func7
  (ChangeSpec.witness_shaped (enc := enc) (C := Tryz.checked) (os := os) (X := fun w _ => laidMetH Tryz.prog Rows.versionsMoreRow.laid w) false (World.laidAll Tryz.prog os Rows.versionsMoreRow.laid)
   #[.agg #[.string ⟨#[]⟩, .slice none 0 0, .slice none 0 0, .int .i64 0, .int .i64 0, .int .i64 0, .slice none 0 0, .slice none 0 0], .int .u8 0, .int .u8 0] 8 (World.laidAll_os ..)
   (World.shaped_of_ZipB (by kernel_rfl) (by kernel_rfl)) (by kernel_rfl) (by kernel_rfl) (by kernel_rfl) (laid_met7 os _))
  Tryz.laidOut rfl (fun ds h => by match ds, h with | [d, d', d''], _ => rfl) (by kernel_rfl) Tryz.underlying4 (by kernel_rfl) (by kernel_rfl) args7
theorem more_said : Rows.VersionsMoreSaid :=
 OpenClaim.holds_of_wide 7 Tryz.f7 rfl rfl rfl rfl rfl rfl rfl ⟨rfl, rfl, rfl, rfl, rfl⟩ rfl rfl rfl rfl rfl (by kernel_rfl) Tryz.func7 (by kernel_rfl)
  (of_decide_eq_true (by kernel_rfl)) (by unfold Func.isWrapper; first | (rw [if_pos (by decide +kernel)]; kernel_rfl) | (rw [if_neg (by decide +kernel)]; exact ⟨rfl, rfl⟩))
  (fun os started H enc _ => more_lifted os started H enc)
theorem more_plain (f : FuncId) (fn : Func) (hf : Tryz.pinned.checked.prog.funcNamed "farandole/farandolelaw31.VersionsMore" = some f) (hfn : Tryz.pinned.checked.prog.funcs[f]? = some fn) :
  false = Tryz.pinned.checked.prog.looks [] /\ ∀ (j : Nat) t, fn.params[j]? = some t -> Tryz.pinned.checked.prog.wantsStandIn t = false := by
 obtain rfl : f = 7 := Option.some.inj ((show Tryz.prog.funcNamed "farandole/farandolelaw31.VersionsMore" = some 7 by kernel_rfl).symm.trans hf) |>.symm
 obtain rfl : fn = Tryz.f7 := (Option.some.inj (Tryz.func7.symm.trans hfn)).symm
 refine ⟨by kernel_rfl, fun j t ht => ?_⟩
 rw [Tryz.params7] at ht
 have hm : t ∈ [27, 5, 5] := by simpa using Array.mem_of_getElem? ht
 have hall : ([27, 5, 5].all fun u => !Tryz.prog.wantsStandIn u) = true := by kernel_rfl
 exact (show Tryz.prog.wantsStandIn t = false by simpa using List.all_eq_true.1 hall t hm)
theorem more_holds : Rows.VersionsMoreCardSaid :=
 Claim7.holds_tied_plain_at .later [] _ _ _ _ more_said (fun _ h => by cases h) (by kernel_rfl) (fun _ h => by cases h) versionsMore_row_tie rfl ⟨rfl, rfl⟩ (by kernel_rfl) rfl more_plain (by kernel_rfl)
end Go.Proofs.YtpdfolkoejbbgaaGreatDoor
