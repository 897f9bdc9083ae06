/- The statement EarlyPathsUpto: whatever the input of bulk at most 1048576, the law returns true and the input reads as it did. -/
import Derived.Test.YtbfebdbdoclagaaGreatDoorB16
import Derived.Test.YtbfebdbdoclagaaGreatDoorCards
import Derived.Test.YtbfebdbdoclagaaGreatDoorTie
set_option linter.unusedVariables false
set_option linter.unusedSimpArgs false
set_option maxHeartbeats 64000000
set_option maxRecDepth 8000
namespace Go.Proofs.YtbfebdbdoclagaaGreatDoor
open Go.ChangeShapes Go.WideShapes Go.ChangeAt Go.RowKit Go.Av
set_option maxRecDepth 100000
theorem args6 (xs : List SV) (h : ArgsOkU 1048576 Tryz.prog 8 Tryz.f6.params.toList xs) : Impl Tryz.prog 6 xs (.one (.one (.bool true))) := by
 rw [Tryz.params6] at h
 obtain ⟨l0, x0, ys0, h0, j0, rfl, l1, x1, ys1, h1, j1, rfl, l2, x2, ys2, h2, j2, rfl, rfl, rfl⟩ := h
 obtain ⟨g0, rfl, hg0⟩ := glob_ofU h0
 obtain ⟨g1, rfl, hg1⟩ := int_ofU Tryz.underlying3 h1
 obtain ⟨g2, rfl⟩ := msg_ofU h2
 simp only [IsSV, Tryz.underlying27, Tryz.underlying3, Tryz.underlying38] at j0 j1 j2
 subst j0
 obtain ⟨d1, hd1, rfl⟩ := j1
 cases hd1
 subst j2
 exact Go.Av.f6 g0 g1 g2 (fp_ofU hg0)
theorem laid_met6 (os : Os) (args : Array Value) : laidMetH Tryz.prog Rows.earlyPathsUptoRow.laid ((World.laidAll Tryz.prog os Rows.earlyPathsUptoRow.laid).forCall (fun _ _ => 0) ⟨#[], args, []⟩).memory := by
 rw [MakeChecks.laidMetH_plain _ _ _ (by kernel_rfl)]
 exact laidMet_laidAll args (by kernel_rfl) (by kernel_rfl)
theorem bulk6 {H : Type} : BulkOk H (Rows.uptoBulk (H := H)) :=
 have h1 : ∀ d : DataW H, 1 <= Rows.uptoBulk d := fun d => by
  cases d with
  | lit l => cases l <;> simp [Rows.uptoBulk]
  | nil => simp [Rows.uptoBulk]
  | ptr d => simp [Rows.uptoBulk]
  | slice elems spare => simp [Rows.uptoBulk]
  | agg parts => simp [Rows.uptoBulk]
  | iface t d => simp [Rows.uptoBulk]
  | map entries => simp [Rows.uptoBulk]
  | held h => simp [Rows.uptoBulk]
 have h2 : ∀ (l : List (DataW H)), (∀ d ∈ l, Rows.uptoBulk d <= Rows.uptoBulkAll l) /\ l.length <= Rows.uptoBulkAll l := fun l => by
  induction l with
  | nil => simp
  | cons x r ih =>
    have := h1 x
    simp only [Rows.uptoBulkAll, List.length_cons]
    refine ⟨fun d hd => ?_, by omega⟩
    rcases List.mem_cons.1 hd with rfl | hd
    ·omega
    ·have := ih.1 d hd
     omega
 ⟨fun s => by simp [Rows.uptoBulk], fun els sp => by
  have := (h2 els).2
  simp only [Rows.uptoBulk]
  omega, fun els sp d hd => by
  have := (h2 els).1 d hd
  simp only [Rows.uptoBulk]
  omega, fun ps d hd => by
  have := (h2 ps).1 d hd
  simp only [Rows.uptoBulk]
  omega⟩
theorem paths_part {H : Type} {l : List (DataW H)} (hk : Rows.uptoSmall H l = true) : ∀ d ∈ l, Rows.uptoBulk d <= 1048576 := by
 have h : Rows.uptoBulkAll l <= 1048576 := of_decide_eq_true hk
 intro d hd
 have key : ∀ (l : List (DataW H)), d ∈ l -> Rows.uptoBulk d <= Rows.uptoBulkAll l := fun l => by
  induction l with
  | nil => simp
  | cons x r ih =>
    intro hd
    simp only [Rows.uptoBulkAll]
    rcases List.mem_cons.1 hd with rfl | hd
    ·omega
    ·have := ih hd
     omega
 exact Nat.le_trans (key l hd) h
theorem paths_reads (os : Os) {H : Type} (enc : TypeId × Value -> H) : ((DataW.whole enc Tryz.prog ((World.laidAll Tryz.prog os Rows.earlyPathsUptoRow.laid).forCall (fun _ _ => 0) ⟨#[], #[.agg #[.string ⟨#[]⟩, .slice none 0 0, .slice none 0 0, .int .i64 0, .int .i64 0, .int .i64 0, .slice none 0 0, .slice none 0 0], .int .i64 0, .agg #[.int .i64 0, .int .i64 0]], []⟩).memory Tryz.f6.params.toList Rows.earlyPathsSpec.vars false (#[.agg #[.string ⟨#[]⟩, .slice none 0 0, .slice none 0 0, .int .i64 0, .int .i64 0, .int .i64 0, .slice none 0 0, .slice none 0 0], .int .i64 0, .agg #[.int .i64 0, .int .i64 0]] : Array Value).toList 8).map fun x => decide (Rows.uptoBulkAll (x.1 ++ x.2.1) <= 1048576)) = some true := by kernel_rfl
theorem paths_lifted (os : Os) (started : os.Started) (H : Type) (enc : TypeId × Value -> H) (F : Stop.Interp) :
  ReturnsInHanded {} Tryz.checked os 6 .any ((Rows.OpenSpec.upto Rows.earlyPathsSpec).preRow enc Tryz.prog Tryz.f6 Rows.earlyPathsUptoRow.domain false Rows.earlyPathsUptoRow.laid) (((Rows.OpenSpec.upto Rows.earlyPathsSpec).at F).post enc Tryz.prog Tryz.f6 false true false false) := by
 obtain ⟨x, hx, hb⟩ := Option.map_eq_some_iff.1 (paths_reads os enc)
 refine returnsInHanded_of_row (C := Tryz.checked) (s := Rows.OpenSpec.upto Rows.earlyPathsSpec) Tryz.own started (by kernel_rfl) Tryz.func6
  (witness_row_shaped (enc := enc) (C := Tryz.checked) false (World.laidAll Tryz.prog os Rows.earlyPathsUptoRow.laid) #[.agg #[.string ⟨#[]⟩, .slice none 0 0, .slice none 0 0, .int .i64 0, .int .i64 0, .int .i64 0, .slice none 0 0, .slice none 0 0], .int .i64 0, .agg #[.int .i64 0, .int .i64 0]] (World.laidAll_os ..)
   (World.shaped_of_ZipB (by kernel_rfl) (by kernel_rfl)) (by kernel_rfl)
   (OpenSpec.preRow_of_cond 8 hx rfl (fun k hk => by cases hk; exact hb) (by kernel_rfl) (laid_met6 os _))) ?_
 intro W base args ds gs before hval hW _ hcond _ _ _ _
 have hp := paths_part (hcond _ rfl)
 exact law_callU (R := 1048576) bulk6 (C := Tryz.checked) (s := Rows.earlyPathsSpec) (m := 8) (tb := 4) Tryz.laidOut rfl (fun ds h => by match ds, h with | [d, d', d''], _ => rfl) (by kernel_rfl) Tryz.underlying4 (by kernel_rfl) (by kernel_rfl) args6 hval hW (fun d hd => hp d (List.mem_append_left _ hd))
theorem paths_said : Rows.EarlyPathsUptoSaid :=
 OpenClaim.holds_of_cond 6 Tryz.f6 rfl rfl rfl rfl rfl rfl rfl ⟨rfl, rfl, rfl, rfl, rfl⟩ rfl rfl rfl rfl rfl (by kernel_rfl) Tryz.func6 (by kernel_rfl)
  (of_decide_eq_true (by kernel_rfl)) (by unfold Func.isWrapper; first | (rw [if_pos (by decide +kernel)]; kernel_rfl) | (rw [if_neg (by decide +kernel)]; exact ⟨rfl, rfl⟩))
  (fun os started H enc _ F => by rw [OpenClaim.pre_eq_preRow]; exact paths_lifted os started H enc F)
theorem paths_plain (f : FuncId) (fn : Func) (hf : Tryz.pinned.checked.prog.funcNamed "farandole/farandolelaw22.EarlyPaths" = some f) (hfn : Tryz.pinned.checked.prog.funcs[f]? = some fn) :
  false = Tryz.pinned.checked.prog.looks [] /\ ∀ (j : Nat) t, fn.params[j]? = some t -> Tryz.pinned.checked.prog.wantsStandIn t = false := by
 obtain rfl : f = 6 := Option.some.inj ((show Tryz.prog.funcNamed "farandole/farandolelaw22.EarlyPaths" = some 6 by kernel_rfl).symm.trans hf) |>.symm
 obtain rfl : fn = Tryz.f6 := (Option.some.inj (Tryz.func6.symm.trans hfn)).symm
 refine ⟨by kernel_rfl, fun j t ht => ?_⟩
 rw [Tryz.params6] at ht
 have hm : t ∈ [27, 3, 38] := by simpa using Array.mem_of_getElem? ht
 have hall : ([27, 3, 38].all fun u => !Tryz.prog.wantsStandIn u) = true := by kernel_rfl
 exact (show Tryz.prog.wantsStandIn t = false by simpa using List.all_eq_true.1 hall t hm)
theorem paths_holds : Rows.EarlyPathsUptoCardSaid :=
 Claim7.holds_tied_plain_at .later [] _ _ _ _ paths_said (fun _ h => by cases h) (by kernel_rfl) (fun _ h => by cases h) earlyPathsUpto_row_tie rfl ⟨rfl, rfl⟩ (by kernel_rfl) rfl paths_plain (by kernel_rfl)
end Go.Proofs.YtbfebdbdoclagaaGreatDoor
