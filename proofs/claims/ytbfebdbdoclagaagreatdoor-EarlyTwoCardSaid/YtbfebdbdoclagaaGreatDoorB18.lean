/- The statement EarlyTwo: whatever the input, the law returns true and the input reads as it did. -/
import Derived.Test.YtbfebdbdoclagaaGreatDoorB16
import Derived.Test.YtbfebdbdoclagaaGreatDoorCards
import Derived.Test.YtbfebdbdoclagaaGreatDoorTie
set_option linter.unusedVariables false
set_option linter.unusedSimpArgs false
set_option maxHeartbeats 64000000
set_option maxRecDepth 8000
namespace Go.Proofs.YtbfebdbdoclagaaGreatDoor
open Go.ChangeShapes Go.WideShapes Go.ChangeAt Go.RowKit Go.Av
set_option maxRecDepth 100000
theorem args4 (xs : List SV) (h : ArgsOk Tryz.prog 8 Tryz.f4.params.toList xs) : Impl Tryz.prog 4 xs (.one (.one (.bool true))) := by
 rw [Tryz.params4] at h
 obtain ⟨l0, x0, ys0, h0, j0, rfl, l1, x1, ys1, h1, j1, rfl, rfl, rfl⟩ := h
 obtain ⟨g0, rfl, hg0⟩ := glob_ofB h0
 obtain ⟨g1, rfl, hg1⟩ := int_ofB Tryz.underlying5 h1
 simp only [IsSV, Tryz.underlying27, Tryz.underlying5] at j0 j1
 subst j0
 obtain ⟨d1, hd1, rfl⟩ := j1
 cases hd1
 exact Go.Av.f4 g0 g1 (byte_of hg1) (small_ofB hg0)
theorem laid_met4 (os : Os) (args : Array Value) : laidMetH Tryz.prog Rows.earlyTwoRow.laid ((World.laidAll Tryz.prog os Rows.earlyTwoRow.laid).forCall (fun _ _ => 0) ⟨#[], args, []⟩).memory := by
 rw [MakeChecks.laidMetH_plain _ _ _ (by kernel_rfl)]
 exact laidMet_laidAll args (by kernel_rfl) (by kernel_rfl)
theorem two_lifted (os : Os) (started : os.Started) (H : Type) (enc : TypeId × Value -> H) :
  ReturnsInHanded {} Tryz.checked os 4 .any (fun w args => (Rows.earlyTwoSpec.pre enc Tryz.prog Tryz.f4 [] false w args /\ laidMetH Tryz.prog Rows.earlyTwoRow.laid w) /\ sizedMet enc Tryz.prog Tryz.f4 (OpenSpec.ofChange Rows.earlyTwoSpec) false w args)
   (Rows.earlyTwoSpec.post enc Tryz.prog Tryz.f4 false true false false) :=
 law_row_laid (C := Tryz.checked) (m := 8) (tb := 4) (X := laidMetH Tryz.prog Rows.earlyTwoRow.laid) (fun _ _ hh h => h.of_heap hh) Tryz.own started (by kernel_rfl) Tryz.func4
  (ChangeSpec.witness_shaped (enc := enc) (C := Tryz.checked) (os := os) (X := fun w _ => laidMetH Tryz.prog Rows.earlyTwoRow.laid w) false (World.laidAll Tryz.prog os Rows.earlyTwoRow.laid)
   #[.agg #[.string ⟨#[]⟩, .slice none 0 0, .slice none 0 0, .int .i64 0, .int .i64 0, .int .i64 0, .slice none 0 0, .slice none 0 0], .int .u8 0] 8 (World.laidAll_os ..)
   (World.shaped_of_ZipB (by kernel_rfl) (by kernel_rfl)) (by kernel_rfl) (by kernel_rfl) (by kernel_rfl) (laid_met4 os _))
  Tryz.laidOut rfl (fun ds h => by match ds, h with | [d, d'], _ => rfl) (by kernel_rfl) Tryz.underlying4 (by kernel_rfl) (by kernel_rfl) args4
theorem two_said : Rows.EarlyTwoSaid :=
 OpenClaim.holds_of_wide 4 Tryz.f4 rfl rfl rfl rfl rfl rfl rfl ⟨rfl, rfl, rfl, rfl, rfl⟩ rfl rfl rfl rfl rfl (by kernel_rfl) Tryz.func4 (by kernel_rfl)
  (of_decide_eq_true (by kernel_rfl)) (by unfold Func.isWrapper; first | (rw [if_pos (by decide +kernel)]; kernel_rfl) | (rw [if_neg (by decide +kernel)]; exact ⟨rfl, rfl⟩))
  (fun os started H enc _ => two_lifted os started H enc)
theorem two_plain (f : FuncId) (fn : Func) (hf : Tryz.pinned.checked.prog.funcNamed "farandole/farandolelaw22.EarlyTwo" = some f) (hfn : Tryz.pinned.checked.prog.funcs[f]? = some fn) :
  false = Tryz.pinned.checked.prog.looks [] /\ ∀ (j : Nat) t, fn.params[j]? = some t -> Tryz.pinned.checked.prog.wantsStandIn t = false := by
 obtain rfl : f = 4 := Option.some.inj ((show Tryz.prog.funcNamed "farandole/farandolelaw22.EarlyTwo" = some 4 by kernel_rfl).symm.trans hf) |>.symm
 obtain rfl : fn = Tryz.f4 := (Option.some.inj (Tryz.func4.symm.trans hfn)).symm
 refine ⟨by kernel_rfl, fun j t ht => ?_⟩
 rw [Tryz.params4] at ht
 have hm : t ∈ [27, 5] := by simpa using Array.mem_of_getElem? ht
 have hall : ([27, 5].all fun u => !Tryz.prog.wantsStandIn u) = true := by kernel_rfl
 exact (show Tryz.prog.wantsStandIn t = false by simpa using List.all_eq_true.1 hall t hm)
theorem two_holds : Rows.EarlyTwoCardSaid :=
 Claim7.holds_tied_plain_at .later [] _ _ _ _ two_said (fun _ h => by cases h) (by kernel_rfl) (fun _ h => by cases h) earlyTwo_row_tie rfl ⟨rfl, rfl⟩ (by kernel_rfl) rfl two_plain (by kernel_rfl)
end Go.Proofs.YtbfebdbdoclagaaGreatDoor
