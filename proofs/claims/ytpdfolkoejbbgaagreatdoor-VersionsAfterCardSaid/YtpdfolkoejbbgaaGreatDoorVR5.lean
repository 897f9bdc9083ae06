/- The statement VersionsAfter: whatever the input, the law returns true and the input reads as it did. -/
import Derived.Test.YtpdfolkoejbbgaaGreatDoorB01
import Derived.Test.YtpdfolkoejbbgaaGreatDoorB13
import Derived.Test.YtpdfolkoejbbgaaGreatDoorCards
import Derived.Test.YtpdfolkoejbbgaaGreatDoorTie
set_option linter.unusedVariables false
set_option linter.unusedSimpArgs false
set_option maxHeartbeats 4000000
namespace Go.Proofs.YtpdfolkoejbbgaaGreatDoor
open Go.ChangeShapes Go.WideShapes Go.ChangeAt Go.RowKit Go.Av
set_option maxRecDepth 100000
theorem query_ofB {n : Nat} {l : List DV} (h : TyLB Tryz.prog (n + 3) 54 l) : ∃ (q : Int) (x : Inter), l = .int .i64 q :: encI x := by
 unfold TyLB at h
 rw [Tryz.underlying54] at h
 simp only [TyFB] at h
 obtain ⟨l1, l2, rfl, h1, l3, l4, rfl, h2, rfl⟩ := h
 obtain ⟨a, rfl, _⟩ := int_ofB Tryz.underlying3 h1
 obtain ⟨x, rfl⟩ := inter_ofB h2
 exact ⟨a, x, by simp⟩
theorem globA {g : Glob} (h : GlobB g) : GlobA g := ⟨h.decls, h.decl⟩
theorem args5 (xs : List SV) (h : ArgsOk Tryz.prog 8 Tryz.f5.params.toList xs) : Impl Tryz.prog 5 xs (.one (.one (.bool true))) := by
 rw [Tryz.params5] at h
 obtain ⟨l, x, ys, h1, h2, rfl, l', x', ys', h3, h4, rfl, l'', x'', ys'', h5, h6, rfl, rfl⟩ := h
 obtain ⟨g, rfl, hg⟩ := glob_ofB h1
 obtain ⟨g', rfl, hg'⟩ := glob_ofB h3
 obtain ⟨q, z, rfl⟩ := query_ofB h5
 simp only [IsSV, Tryz.underlying27, Tryz.underlying54] at h2 h4 h6
 subst h2
 subst h4
 subst h6
 exact Go.Av.f5 f109 g g' q z (globA hg) (globA hg')
theorem laid_met5 (os : Os) (args : Array Value) : laidMetH Tryz.prog Rows.versionsAfterRow.laid ((World.laidAll Tryz.prog os Rows.versionsAfterRow.laid).forCall (fun _ _ => 0) ⟨#[], args, []⟩).memory := by
 rw [MakeChecks.laidMetH_plain _ _ _ (by kernel_rfl)]
 exact laidMet_laidAll args (by kernel_rfl) (by kernel_rfl)
theorem after_lifted (os : Os) (started : os.Started) (H : Type) (enc : TypeId × Value → H) :
  ReturnsInHanded {} Tryz.checked os 5 .any (fun w args => (Rows.versionsAfterSpec.pre enc Tryz.prog Tryz.f5 [] false w args ∧ laidMetH Tryz.prog Rows.versionsAfterRow.laid w) ∧ sizedMet enc Tryz.prog Tryz.f5 (OpenSpec.ofChange Rows.versionsAfterSpec) false w args)
   (Rows.versionsAfterSpec.post enc Tryz.prog Tryz.f5 false true false false) :=
 law_row_laid (C := Tryz.checked) (m := 8) (tb := 4) (X := laidMetH Tryz.prog Rows.versionsAfterRow.laid) (fun _ _ hh h => h.of_heap hh) Tryz.own started (by kernel_rfl) Tryz.func5
  (ChangeSpec.witness_shaped (enc := enc) (C := Tryz.checked) (os := os) (X := fun w _ => laidMetH Tryz.prog Rows.versionsAfterRow.laid w) false (World.laidAll Tryz.prog os Rows.versionsAfterRow.laid)
   #[.agg #[.string ⟨#[]⟩, .slice none 0 0, .slice none 0 0, .int .i64 0, .int .i64 0, .int .i64 0, .slice none 0 0, .slice none 0 0], .agg #[.string ⟨#[]⟩, .slice none 0 0, .slice none 0 0, .int .i64 0, .int .i64 0, .int .i64 0, .slice none 0 0, .slice none 0 0], .agg #[.int .i64 0, .int .i64 0, .int .i64 0, .int .i64 0]] 8 (World.laidAll_os ..)
   (World.shaped_of_ZipB (by kernel_rfl) (by kernel_rfl)) (by kernel_rfl) (by kernel_rfl) (by kernel_rfl) (laid_met5 os _))
  Tryz.laidOut rfl (fun ds h => by match ds, h with | [d, d', d''], _ => rfl) (by kernel_rfl) Tryz.underlying4 (by kernel_rfl) (by kernel_rfl) args5
theorem after_said : Rows.VersionsAfterSaid :=
 OpenClaim.holds_of_wide 5 Tryz.f5 rfl rfl rfl rfl rfl rfl rfl ⟨rfl, rfl, rfl, rfl, rfl⟩ rfl rfl rfl rfl rfl (by kernel_rfl) Tryz.func5 (by kernel_rfl)
  (of_decide_eq_true (by kernel_rfl)) (by unfold Func.isWrapper; first | (rw [if_pos (by decide +kernel)]; kernel_rfl) | (rw [if_neg (by decide +kernel)]; exact ⟨rfl, rfl⟩))
  (fun os started H enc _ => after_lifted os started H enc)
theorem after_plain (f : FuncId) (fn : Func) (hf : Tryz.pinned.checked.prog.funcNamed "farandole/farandolelaw31.VersionsAfter" = some f) (hfn : Tryz.pinned.checked.prog.funcs[f]? = some fn) :
  false = Tryz.pinned.checked.prog.looks [] ∧ ∀ (j : Nat) t, fn.params[j]? = some t → Tryz.pinned.checked.prog.wantsStandIn t = false := by
 obtain rfl : f = 5 := Option.some.inj ((show Tryz.prog.funcNamed "farandole/farandolelaw31.VersionsAfter" = some 5 by kernel_rfl).symm.trans hf) |>.symm
 obtain rfl : fn = Tryz.f5 := (Option.some.inj (Tryz.func5.symm.trans hfn)).symm
 refine ⟨by kernel_rfl, fun j t ht => ?_⟩
 rw [Tryz.params5] at ht
 have hm : t ∈ [27, 27, 54] := by simpa using Array.mem_of_getElem? ht
 have hall : ([27, 27, 54].all fun u => !Tryz.prog.wantsStandIn u) = true := by kernel_rfl
 exact (show Tryz.prog.wantsStandIn t = false by simpa using List.all_eq_true.1 hall t hm)
theorem after_holds : Rows.VersionsAfterCardSaid :=
 Claim7.holds_tied_plain_at .later [] _ _ _ _ after_said (fun _ h => by cases h) (by kernel_rfl) (fun _ h => by cases h) versionsAfter_row_tie rfl ⟨rfl, rfl⟩ (by kernel_rfl) rfl after_plain (by kernel_rfl)
end Go.Proofs.YtpdfolkoejbbgaaGreatDoor
