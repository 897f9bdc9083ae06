/- The statement EarlyLeast: whatever the input, the law returns true and the input reads as it did. -/
import Derived.Test.YtbfebdbdoclagaaGreatDoorB16
import Derived.Test.YtbfebdbdoclagaaGreatDoorCards
import Derived.Test.YtbfebdbdoclagaaGreatDoorTie
set_option linter.unusedVariables false
set_option linter.unusedSimpArgs false
set_option maxHeartbeats 64000000
set_option maxRecDepth 8000
namespace Go.Proofs.YtbfebdbdoclagaaGreatDoor
open Go.ChangeShapes Go.WideShapes Go.ChangeAt Go.RowKit Go.Av
set_option maxRecDepth 100000
theorem args8 (xs : List SV) (h : ArgsOk Tryz.prog 8 Tryz.f8.params.toList xs) : Impl Tryz.prog 8 xs (.one (.one (.bool true))) := by
 rw [Tryz.params8] at h
 obtain ⟨l0, x0, ys0, h0, j0, rfl, l1, x1, ys1, h1, j1, rfl, l2, x2, ys2, h2, j2, rfl, rfl, rfl⟩ := h
 obtain ⟨g0, rfl, hg0⟩ := glob_ofB h0
 obtain ⟨g1, rfl, hg1⟩ := int_ofB Tryz.underlying5 h1
 obtain ⟨g2, rfl, hg2⟩ := bytes_ofB h2
 simp only [IsSV, Tryz.underlying27, Tryz.underlying5, Tryz.underlying59] at j0 j1 j2
 subst j0
 obtain ⟨d1, hd1, rfl⟩ := j1
 cases hd1
 obtain ⟨d2, hd2, rfl⟩ := j2
 cases hd2
 exact Go.Av.f8 g0 g1 g2 (byte_of hg1) hg2.2 (small_ofB hg0)
theorem laid_met8 (os : Os) (args : Array Value) : laidMetH Tryz.prog Rows.earlyLeastRow.laid ((World.laidAll Tryz.prog os Rows.earlyLeastRow.laid).forCall (fun _ _ => 0) ⟨#[], args, []⟩).memory := by
 rw [MakeChecks.laidMetH_plain _ _ _ (by kernel_rfl)]
 exact laidMet_laidAll args (by kernel_rfl) (by kernel_rfl)
theorem least_lifted (os : Os) (started : os.Started) (H : Type) (enc : TypeId × Value -> H) :
  ReturnsInHanded {} Tryz.checked os 8 .any (fun w args => (Rows.earlyLeastSpec.pre enc Tryz.prog Tryz.f8 [] false w args /\ laidMetH Tryz.prog Rows.earlyLeastRow.laid w) /\ sizedMet enc Tryz.prog Tryz.f8 (OpenSpec.ofChange Rows.earlyLeastSpec) false w args)
   (Rows.earlyLeastSpec.post enc Tryz.prog Tryz.f8 false true false false) :=
 law_row_laid (C := Tryz.checked) (m := 8) (tb := 4) (X := laidMetH Tryz.prog Rows.earlyLeastRow.laid) (fun _ _ hh h => h.of_heap hh) Tryz.own started (by kernel_rfl) Tryz.func8
  (ChangeSpec.witness_shaped (enc := enc) (C := Tryz.checked) (os := os) (X := fun w _ => laidMetH Tryz.prog Rows.earlyLeastRow.laid w) false (World.laidAll Tryz.prog os Rows.earlyLeastRow.laid)
   #[.agg #[.string ⟨#[]⟩, .slice none 0 0, .slice none 0 0, .int .i64 0, .int .i64 0, .int .i64 0, .slice none 0 0, .slice none 0 0], .int .u8 0, .slice none 0 0] 8 (World.laidAll_os ..)
   (World.shaped_of_ZipB (by kernel_rfl) (by kernel_rfl)) (by kernel_rfl) (by kernel_rfl) (by kernel_rfl) (laid_met8 os _))
  Tryz.laidOut rfl (fun ds h => by match ds, h with | [d, d', d''], _ => rfl) (by kernel_rfl) Tryz.underlying4 (by kernel_rfl) (by kernel_rfl) args8
theorem least_said : Rows.EarlyLeastSaid :=
 OpenClaim.holds_of_wide 8 Tryz.f8 rfl rfl rfl rfl rfl rfl rfl ⟨rfl, rfl, rfl, rfl, rfl⟩ rfl rfl rfl rfl rfl (by kernel_rfl) Tryz.func8 (by kernel_rfl)
  (of_decide_eq_true (by kernel_rfl)) (by unfold Func.isWrapper; first | (rw [if_pos (by decide +kernel)]; kernel_rfl) | (rw [if_neg (by decide +kernel)]; exact ⟨rfl, rfl⟩))
  (fun os started H enc _ => least_lifted os started H enc)
theorem least_plain (f : FuncId) (fn : Func) (hf : Tryz.pinned.checked.prog.funcNamed "farandole/farandolelaw22.EarlyLeast" = some f) (hfn : Tryz.pinned.checked.prog.funcs[f]? = some fn) :
  false = Tryz.pinned.checked.prog.looks [] /\ ∀ (j : Nat) t, fn.params[j]? = some t -> Tryz.pinned.checked.prog.wantsStandIn t = false := by
 obtain rfl : f = 8 := Option.some.inj ((show Tryz.prog.funcNamed "farandole/farandolelaw22.EarlyLeast" = some 8 by kernel_rfl).symm.trans hf) |>.symm
 obtain rfl : fn = Tryz.f8 := (Option.some.inj (Tryz.func8.symm.trans hfn)).symm
 refine ⟨by kernel_rfl, fun j t ht => ?_⟩
 rw [Tryz.params8] at ht
 have hm : t ∈ [27, 5, 59] := by simpa using Array.mem_of_getElem? ht
 have hall : ([27, 5, 59].all fun u => !Tryz.prog.wantsStandIn u) = true := by kernel_rfl
 exact (show Tryz.prog.wantsStandIn t = false by simpa using List.all_eq_true.1 hall t hm)
theorem least_holds : Rows.EarlyLeastCardSaid :=
 Claim7.holds_tied_plain_at .later [] _ _ _ _ least_said (fun _ h => by cases h) (by kernel_rfl) (fun _ h => by cases h) earlyLeast_row_tie rfl ⟨rfl, rfl⟩ (by kernel_rfl) rfl least_plain (by kernel_rfl)
end Go.Proofs.YtbfebdbdoclagaaGreatDoor
