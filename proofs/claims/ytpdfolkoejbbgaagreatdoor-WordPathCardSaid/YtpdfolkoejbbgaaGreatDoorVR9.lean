/- The statement WordPath: whatever the input, the law returns true and the input reads as it did. -/
import Derived.Test.YtpdfolkoejbbgaaGreatDoorB00
import Derived.Test.YtpdfolkoejbbgaaGreatDoorB08
import Derived.Test.YtpdfolkoejbbgaaGreatDoorB09
import Derived.Test.YtpdfolkoejbbgaaGreatDoorCards
import Derived.Test.YtpdfolkoejbbgaaGreatDoorTie
set_option linter.unusedVariables false
set_option linter.unusedSimpArgs false
set_option maxHeartbeats 4000000
namespace Go.Proofs.YtpdfolkoejbbgaaGreatDoor
open Go.ChangeShapes Go.WideShapes Go.ChangeAt Go.RowKit Go.Av
set_option maxRecDepth 100000
theorem f3s (g : Glob) (ws : List Inter) (role : Int) (hg : GlobB g) (hw : ws.length ≤ 1000000000000000) : Impl Tryz.prog 3 [.ag (encG g), .one (.sl (ws.map encI)), .one (.int .i64 role)] (.one (.one (.bool true))) :=
  Go.Av.f3 f109 f12 g ws role hg.decls (fun d hd => (hg.decl d hd).2) (fun d hd => (hg.decl d hd).1) hw
theorem args3 (xs : List SV) (h : ArgsOk Tryz.prog 8 Tryz.f3.params.toList xs) : Impl Tryz.prog 3 xs (.one (.one (.bool true))) := by
  rw [Tryz.params3] at h
  obtain ⟨l, x, ys, h1, h2, rfl, l', x', ys', h3, h4, rfl, l'', x'', ys'', h5, h6, rfl, rfl⟩ := h
  obtain ⟨g, rfl, hg⟩ := glob_ofB h1
  obtain ⟨ws, rfl, hw⟩ := inters_ofB h3
  obtain ⟨r, rfl, _⟩ := int_ofB Tryz.underlying3 h5
  simp only [IsSV, Tryz.underlying27, Tryz.underlying28, Tryz.underlying3, List.cons.injEq, and_true] at h2 h4 h6
  obtain ⟨d, rfl, rfl⟩ := h4
  obtain ⟨d', rfl, rfl⟩ := h6
  subst h2
  exact f3s g ws r hg (reach_small hw)
theorem laid_met (os : Os) (args : Array Value) : laidMetH Tryz.prog Rows.wordPathRow.laid ((World.laidAll Tryz.prog os Rows.wordPathRow.laid).forCall (fun _ _ => 0) ⟨#[], args, []⟩).memory := by
  rw [MakeChecks.laidMetH_plain _ _ _ (by kernel_rfl)]
  exact laidMet_laidAll args (by kernel_rfl) (by kernel_rfl)
theorem path_lifted (os : Os) (started : os.Started) (H : Type) (enc : TypeId × Value → H) :
    ReturnsInHanded {} Tryz.checked os 3 .any (fun w args => (Rows.wordPathSpec.pre enc Tryz.prog Tryz.f3 [] false w args ∧ laidMetH Tryz.prog Rows.wordPathRow.laid w) ∧ sizedMet enc Tryz.prog Tryz.f3 (OpenSpec.ofChange Rows.wordPathSpec) false w args)
      (Rows.wordPathSpec.post enc Tryz.prog Tryz.f3 false true false false) :=
  law_row_laid (C := Tryz.checked) (m := 8) (tb := 4) (X := laidMetH Tryz.prog Rows.wordPathRow.laid) (fun _ _ hh h => h.of_heap hh) Tryz.own started (by kernel_rfl) Tryz.func3
    (ChangeSpec.witness_shaped (enc := enc) (C := Tryz.checked) (os := os) (X := fun w _ => laidMetH Tryz.prog Rows.wordPathRow.laid w) false (World.laidAll Tryz.prog os Rows.wordPathRow.laid)
      #[.agg #[.string ⟨#[]⟩, .slice none 0 0, .slice none 0 0, .int .i64 0, .int .i64 0, .int .i64 0, .slice none 0 0, .slice none 0 0], .slice none 0 0, .int .i64 0] 8 (World.laidAll_os ..)
      (World.shaped_of_ZipB (by kernel_rfl) (by kernel_rfl)) (by kernel_rfl) (by kernel_rfl) (by kernel_rfl) (laid_met os _))
    Tryz.laidOut rfl (fun ds h => by match ds, h with | [d, d', d''], _ => rfl) (by kernel_rfl) Tryz.underlying4 (by kernel_rfl) (by kernel_rfl) args3
theorem path_said : Rows.WordPathSaid :=
  OpenClaim.holds_of_wide 3 Tryz.f3 rfl rfl rfl rfl rfl rfl rfl ⟨rfl, rfl, rfl, rfl, rfl⟩ rfl rfl rfl rfl rfl (by kernel_rfl) Tryz.func3 (by kernel_rfl)
    (of_decide_eq_true (by kernel_rfl)) (by unfold Func.isWrapper; first | (rw [if_pos (by decide +kernel)]; kernel_rfl) | (rw [if_neg (by decide +kernel)]; exact ⟨rfl, rfl⟩))
    (fun os started H enc _ => path_lifted os started H enc)
theorem path_plain (f : FuncId) (fn : Func) (hf : Tryz.pinned.checked.prog.funcNamed "farandole/farandolelaw19.WordPath" = some f) (hfn : Tryz.pinned.checked.prog.funcs[f]? = some fn) :
    false = Tryz.pinned.checked.prog.looks [] ∧ ∀ (j : Nat) t, fn.params[j]? = some t → Tryz.pinned.checked.prog.wantsStandIn t = false := by
  obtain rfl : f = 3 := Option.some.inj ((show Tryz.prog.funcNamed "farandole/farandolelaw19.WordPath" = some 3 by kernel_rfl).symm.trans hf) |>.symm
  obtain rfl : fn = Tryz.f3 := (Option.some.inj (Tryz.func3.symm.trans hfn)).symm
  refine ⟨by kernel_rfl, fun j t ht => ?_⟩
  rw [Tryz.params3] at ht
  have hm : t ∈ [27, 28, 3] := by simpa using Array.mem_of_getElem? ht
  have hall : ([27, 28, 3].all fun u => !Tryz.prog.wantsStandIn u) = true := by kernel_rfl
  exact (show Tryz.prog.wantsStandIn t = false by simpa using List.all_eq_true.1 hall t hm)
theorem path_holds : Rows.WordPathCardSaid :=
  Claim7.holds_tied_plain_at .later [] _ _ _ _ path_said (fun _ h => by cases h) (by kernel_rfl) (fun _ h => by cases h) wordPath_row_tie rfl ⟨rfl, rfl⟩ (by kernel_rfl) rfl path_plain (by kernel_rfl)
end Go.Proofs.YtpdfolkoejbbgaaGreatDoor
