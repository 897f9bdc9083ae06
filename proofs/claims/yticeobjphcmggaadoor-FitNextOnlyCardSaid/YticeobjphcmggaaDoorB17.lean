/- The statement FitNextOnly: whatever the input, the law returns true and the input reads as it did. -/
import Derived.Test.YticeobjphcmggaaDoorB01
import Derived.Test.YticeobjphcmggaaDoorB12
import Derived.Test.YticeobjphcmggaaDoorB16
import Derived.Test.YticeobjphcmggaaDoorCards
import Derived.Test.YticeobjphcmggaaDoorTie
set_option linter.unusedVariables false
set_option linter.unusedSimpArgs false
set_option maxHeartbeats 64000000
set_option maxRecDepth 8000
namespace Go.Proofs.YticeobjphcmggaaDoor
open Go.ChangeShapes Go.WideShapes Go.ChangeAt Go.RowKit Go.Av
set_option maxRecDepth 100000
theorem globA {g : Glob} (h : GlobB g) : GlobA g := ⟨h.decls, h.decl⟩
theorem args4 (xs : List SV) (h : ArgsOk Tryd.prog 8 Tryd.f4.params.toList xs) : Impl Tryd.prog 4 xs (.one (.one (.bool true))) := by
 rw [Tryd.params4] at h
 obtain ⟨l0, x0, ys0, h0, j0, rfl, l1, x1, ys1, h1, j1, rfl, l2, x2, ys2, h2, j2, rfl, rfl, rfl⟩ := h
 obtain ⟨g0, rfl, hg0⟩ := glob_ofB h0
 obtain ⟨g1, rfl, hg1⟩ := hists_ofB h1
 obtain ⟨g2, rfl⟩ := ev_ofB h2
 simp only [IsSV, Tryd.underlying27, Tryd.underlying28, Tryd.underlying40] at j0 j1 j2
 subst j0
 obtain ⟨d1, hd1, rfl⟩ := j1
 cases hd1
 subst j2
 exact Go.Av.f4 f56 g0 g1 g2 (globA hg0) hg1 
theorem laid_met4 (os : Os) (args : Array Value) : laidMetH Tryd.prog Rows.fitNextOnlyRow.laid ((World.laidAll Tryd.prog os Rows.fitNextOnlyRow.laid).forCall (fun _ _ => 0) ⟨#[], args, []⟩).memory := by
 rw [MakeChecks.laidMetH_plain _ _ _ (by kernel_rfl)]
 exact laidMet_laidAll args (by kernel_rfl) (by kernel_rfl)
theorem only_lifted (os : Os) (started : os.Started) (H : Type) (enc : TypeId × Value -> H) :
  ReturnsInHanded {} Tryd.checked os 4 .any (fun w args => (Rows.fitNextOnlySpec.pre enc Tryd.prog Tryd.f4 [] false w args /\ laidMetH Tryd.prog Rows.fitNextOnlyRow.laid w) /\ sizedMet enc Tryd.prog Tryd.f4 (OpenSpec.ofChange Rows.fitNextOnlySpec) false w args)
   (Rows.fitNextOnlySpec.post enc Tryd.prog Tryd.f4 false true false false) :=
 law_row_laid (C := Tryd.checked) (m := 8) (tb := 4) (X := laidMetH Tryd.prog Rows.fitNextOnlyRow.laid) (fun _ _ hh h => h.of_heap hh) Tryd.own started (by kernel_rfl) Tryd.func4
  (ChangeSpec.witness_shaped (enc := enc) (C := Tryd.checked) (os := os) (X := fun w _ => laidMetH Tryd.prog Rows.fitNextOnlyRow.laid w) false (World.laidAll Tryd.prog os Rows.fitNextOnlyRow.laid)
   #[.agg #[.string ⟨#[]⟩, .slice none 0 0, .slice none 0 0, .int .i64 0, .int .i64 0, .int .i64 0, .slice none 0 0, .slice none 0 0], .slice none 0 0, .agg #[.int .i64 0, .bool false, .int .i64 0, .int .i64 0, .slice none 0 0]] 8 (World.laidAll_os ..)
   (World.shaped_of_ZipB (by kernel_rfl) (by kernel_rfl)) (by kernel_rfl) (by kernel_rfl) (by kernel_rfl) (laid_met4 os _))
  Tryd.laidOut rfl (fun ds h => by match ds, h with | [d, d', d''], _ => rfl) (by kernel_rfl) Tryd.underlying4 (by kernel_rfl) (by kernel_rfl) args4
theorem only_said : Rows.FitNextOnlySaid :=
 OpenClaim.holds_of_wide 4 Tryd.f4 rfl rfl rfl rfl rfl rfl rfl ⟨rfl, rfl, rfl, rfl, rfl⟩ rfl rfl rfl rfl rfl (by kernel_rfl) Tryd.func4 (by kernel_rfl)
  (of_decide_eq_true (by kernel_rfl)) (by unfold Func.isWrapper; first | (rw [if_pos (by decide +kernel)]; kernel_rfl) | (rw [if_neg (by decide +kernel)]; exact ⟨rfl, rfl⟩))
  (fun os started H enc _ => only_lifted os started H enc)
theorem only_plain (f : FuncId) (fn : Func) (hf : Tryd.pinned.checked.prog.funcNamed "farandole/farandolelaw20.FitNextOnly" = some f) (hfn : Tryd.pinned.checked.prog.funcs[f]? = some fn) :
  false = Tryd.pinned.checked.prog.looks [] /\ ∀ (j : Nat) t, fn.params[j]? = some t -> Tryd.pinned.checked.prog.wantsStandIn t = false := by
 obtain rfl : f = 4 := Option.some.inj ((show Tryd.prog.funcNamed "farandole/farandolelaw20.FitNextOnly" = some 4 by kernel_rfl).symm.trans hf) |>.symm
 obtain rfl : fn = Tryd.f4 := (Option.some.inj (Tryd.func4.symm.trans hfn)).symm
 refine ⟨by kernel_rfl, fun j t ht => ?_⟩
 rw [Tryd.params4] at ht
 have hm : t ∈ [27, 28, 40] := by simpa using Array.mem_of_getElem? ht
 have hall : ([27, 28, 40].all fun u => !Tryd.prog.wantsStandIn u) = true := by kernel_rfl
 exact (show Tryd.prog.wantsStandIn t = false by simpa using List.all_eq_true.1 hall t hm)
theorem only_holds : Rows.FitNextOnlyCardSaid :=
 Claim7.holds_tied_plain_at .later [] _ _ _ _ only_said (fun _ h => by cases h) (by kernel_rfl) (fun _ h => by cases h) fitNextOnly_row_tie rfl ⟨rfl, rfl⟩ (by kernel_rfl) rfl only_plain (by kernel_rfl)
end Go.Proofs.YticeobjphcmggaaDoor
