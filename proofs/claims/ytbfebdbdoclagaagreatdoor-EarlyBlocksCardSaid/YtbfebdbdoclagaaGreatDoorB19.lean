/- The statement EarlyBlocks: whatever the input, the law returns true and the input reads as it did. -/
import Derived.Test.YtbfebdbdoclagaaGreatDoorB16
import Derived.Test.YtbfebdbdoclagaaGreatDoorCards
import Derived.Test.YtbfebdbdoclagaaGreatDoorTie
set_option linter.unusedVariables false
set_option linter.unusedSimpArgs false
set_option maxHeartbeats 64000000
set_option maxRecDepth 8000
namespace Go.Proofs.YtbfebdbdoclagaaGreatDoor
open Go.ChangeShapes Go.WideShapes Go.ChangeAt Go.RowKit Go.Av
set_option maxRecDepth 100000
theorem args5 (xs : List SV) (h : ArgsOk Tryz.prog 8 Tryz.f5.params.toList xs) : Impl Tryz.prog 5 xs (.one (.one (.bool true))) := by
 rw [Tryz.params5] at h
 obtain ⟨l0, x0, ys0, h0, j0, rfl, l1, x1, ys1, h1, j1, rfl, rfl, rfl⟩ := h
 obtain ⟨g0, rfl, hg0⟩ := int_ofB Tryz.underlying3 h0
 obtain ⟨g1, rfl, hg1⟩ := inters_ofB h1
 simp only [IsSV, Tryz.underlying3, Tryz.underlying46] at j0 j1
 obtain ⟨d0, hd0, rfl⟩ := j0
 cases hd0
 obtain ⟨d1, hd1, rfl⟩ := j1
 cases hd1
 exact Go.Av.f5 g0 g1
theorem laid_met5 (os : Os) (args : Array Value) : laidMetH Tryz.prog Rows.earlyBlocksRow.laid ((World.laidAll Tryz.prog os Rows.earlyBlocksRow.laid).forCall (fun _ _ => 0) ⟨#[], args, []⟩).memory := by
 rw [MakeChecks.laidMetH_plain _ _ _ (by kernel_rfl)]
 exact laidMet_laidAll args (by kernel_rfl) (by kernel_rfl)
theorem blocks_lifted (os : Os) (started : os.Started) (H : Type) (enc : TypeId × Value -> H) :
  ReturnsInHanded {} Tryz.checked os 5 .any (fun w args => (Rows.earlyBlocksSpec.pre enc Tryz.prog Tryz.f5 [] false w args /\ laidMetH Tryz.prog Rows.earlyBlocksRow.laid w) /\ sizedMet enc Tryz.prog Tryz.f5 (OpenSpec.ofChange Rows.earlyBlocksSpec) false w args)
   (Rows.earlyBlocksSpec.post enc Tryz.prog Tryz.f5 false true false false) :=
 law_row_laid (C := Tryz.checked) (m := 8) (tb := 4) (X := laidMetH Tryz.prog Rows.earlyBlocksRow.laid) (fun _ _ hh h => h.of_heap hh) Tryz.own started (by kernel_rfl) Tryz.func5
  (ChangeSpec.witness_shaped (enc := enc) (C := Tryz.checked) (os := os) (X := fun w _ => laidMetH Tryz.prog Rows.earlyBlocksRow.laid w) false (World.laidAll Tryz.prog os Rows.earlyBlocksRow.laid)
   #[.int .i64 0, .slice none 0 0] 8 (World.laidAll_os ..)
   (World.shaped_of_ZipB (by kernel_rfl) (by kernel_rfl)) (by kernel_rfl) (by kernel_rfl) (by kernel_rfl) (laid_met5 os _))
  Tryz.laidOut rfl (fun ds h => by match ds, h with | [d, d'], _ => rfl) (by kernel_rfl) Tryz.underlying4 (by kernel_rfl) (by kernel_rfl) args5
theorem blocks_said : Rows.EarlyBlocksSaid :=
 OpenClaim.holds_of_wide 5 Tryz.f5 rfl rfl rfl rfl rfl rfl rfl ⟨rfl, rfl, rfl, rfl, rfl⟩ rfl rfl rfl rfl rfl (by kernel_rfl) Tryz.func5 (by kernel_rfl)
  (of_decide_eq_true (by kernel_rfl)) (by unfold Func.isWrapper; first | (rw [if_pos (by decide +kernel)]; kernel_rfl) | (rw [if_neg (by decide +kernel)]; exact ⟨rfl, rfl⟩))
  (fun os started H enc _ => blocks_lifted os started H enc)
theorem blocks_plain (f : FuncId) (fn : Func) (hf : Tryz.pinned.checked.prog.funcNamed "farandole/farandolelaw22.EarlyBlocks" = some f) (hfn : Tryz.pinned.checked.prog.funcs[f]? = some fn) :
  false = Tryz.pinned.checked.prog.looks [] /\ ∀ (j : Nat) t, fn.params[j]? = some t -> Tryz.pinned.checked.prog.wantsStandIn t = false := by
 obtain rfl : f = 5 := Option.some.inj ((show Tryz.prog.funcNamed "farandole/farandolelaw22.EarlyBlocks" = some 5 by kernel_rfl).symm.trans hf) |>.symm
 obtain rfl : fn = Tryz.f5 := (Option.some.inj (Tryz.func5.symm.trans hfn)).symm
 refine ⟨by kernel_rfl, fun j t ht => ?_⟩
 rw [Tryz.params5] at ht
 have hm : t ∈ [3, 46] := by simpa using Array.mem_of_getElem? ht
 have hall : ([3, 46].all fun u => !Tryz.prog.wantsStandIn u) = true := by kernel_rfl
 exact (show Tryz.prog.wantsStandIn t = false by simpa using List.all_eq_true.1 hall t hm)
theorem blocks_holds : Rows.EarlyBlocksCardSaid :=
 Claim7.holds_tied_plain_at .later [] _ _ _ _ blocks_said (fun _ h => by cases h) (by kernel_rfl) (fun _ h => by cases h) earlyBlocks_row_tie rfl ⟨rfl, rfl⟩ (by kernel_rfl) rfl blocks_plain (by kernel_rfl)
end Go.Proofs.YtbfebdbdoclagaaGreatDoor
