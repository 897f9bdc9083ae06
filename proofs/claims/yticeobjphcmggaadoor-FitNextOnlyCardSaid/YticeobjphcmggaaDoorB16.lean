/- The law FitNextOnly. -/
import Derived.Test.YticeobjphcmggaaDoorAvR
import Derived.Test.YticeobjphcmggaaDoorB14
import Derived.Test.YticeobjphcmggaaDoorB12
set_option linter.unusedVariables false
set_option linter.unusedSimpArgs false
set_option maxHeartbeats 64000000
set_option maxRecDepth 8000
namespace Go.Av
open Go Go.RowKit Go.Proofs
set_option maxHeartbeats 64000000
theorem next_cases (g : Glob) (H : List (List Ev)) (r : Int) : (∃ (rn : Nat) (out : List Ev), r = rn /\ rn < H.length /\ nextV g H r = (some out, 0)) \/ ∃ c, c ≠ 0 /\ nextV g H r = (none, c) := by
 unfold nextV
 split
 ·rename_i hc
  split
  ·rename_i hr
   split
   ·rename_i out _
    left
    refine ⟨r.toNat, out, by omega, ?_, rfl⟩
    have hgo := search_good hc
    obtain ⟨_, hl, _⟩ := valid_roles hgo
    omega
   ·exact .inr ⟨6, by decide, rfl⟩
  ·exact .inr ⟨12, by decide, rfl⟩
 ·rename_i hc
  exact .inr ⟨_, hc, rfl⟩
theorem next_labels {g : Glob} {H : List (List Ev)} {r : Int} {out : List Ev} (h : nextV g H r = (some out, 0)) : ∀ y ∈ out, 0 <= y.label /\ y.label < g.decls.length := by
 intro y hy
 unfold nextV at h
 split at h
 ·split at h
  ·split at h
   ·rename_i o ho
    injection h with h _
    injection h with h
    subst h
    obtain ⟨s, p, hp, l, hl, hi, rfl⟩ := (next_mem ho y).1 hy
    simp only [evT]
    omega
   ·cases h
  ·cases h
 ·cases h
theorem f4 (h109 : H109) (g : Glob) (H : List (List Ev)) (x : Ev) (hg : GlobA g) (hH : HistA H) : Impl Tryd.prog 4 [.ag (encG g), .one (.sl (H.map encH)), .ag (encE x)] (.one (.one (.bool true))) := by
 have k5 := f5 h109
 have k6 := f6 g H 8 hg.1 (fun d hd => (hg.2 d hd).2) hH.1 hH.2
 have hfx : (encE x).all DV.flat = true := flat_encE x
 simp only [encG] at k6
 refine impl_v ?_
 cases hf : fewF g H 8 with
 | false =>
   rw [hf] at k6
   refine wV (aN encG.eq_1 encE.eq_1) (aN k5 k6) (H1.k ?_); intro h
   simp [go_sem]
 | true =>
   rw [hf] at k6
   obtain ⟨f1, f2, f3⟩ := few_facts hf
   have hst : g.states <= 20 /\ g.decls.length <= 8 /\ g.roles.length <= 10 := by
    unfold fewF fewG at hf
    simp only [Bool.and_eq_true, decide_eq_true_eq] at hf
    omega
   have sg := few_small f1 fun d hd => (hg.2 d hd).1
   have hl : H.length <= 1000000 := by omega
   have hh : ∀ l ∈ H, l.length <= 100000 := fun l hl' => by have := sumH_mem hl'; omega
   have hb : ∀ out, (nextV g H x.role).1 = some out -> out.length <= 1000000 := by
    intro out ho
    unfold nextV at ho
    split at ho
    ·split at ho
     ·split at ho
      ·rename_i o hq
       cases ho
       have := next_len hq
       have : g.decls.length * g.roles.length <= 8 * 10 := Nat.mul_le_mul (by omega) (by omega)
       omega
      ·cases ho
     ·cases ho
    ·cases ho
   have k9 := f9 h109 g H x.role sg hl hh
   simp only [encG] at k9
   rcases next_cases g H x.role with ⟨rn, out, hxr, hrn, hv⟩ | ⟨c, hc, hv⟩
   rotate_left
   ·rw [hv] at k9
    simp only [resE] at k9
    refine wV (aN encG.eq_1 <| aN encE.eq_1 hc) (aN k5 <| aN k6 k9) (H1.k ?_); intro h
    simp [go_sem]
   have hno := next_only hxr (by rw [<- hxr]; exact hv)
   have hlab := next_labels hv
   have hbo := hb out (by rw [hv])
   rw [hv] at k9
   simp only [resE] at k9
   refine wV (aN encG.eq_1 encE.eq_1) (aN k5 <| aN k6 k9) (H1.k ?_); intro h
   refine z_k (fun n e => ∃ k : Nat, k + n = out.length /\ e = [(39, .sv (.one (.int .i64 k))), (38, .sv (.one (.int .i64 out.length))), (37, .al 7 []), (9, .sv (.one (.bool ((out.take k).any (sameX x))))), (8, .sv (.one (.int .i64 0))), (7, .sv (.one (.ow 5 (out.map encE)))), (6, .sv (.one (.bool false))), (5, .sv (.one (.bx (encE x)))), (3, .sv (.one (.bx (encG g)))), (1, .sv (.one (.sl (H.map encH))))]) out.length _ ⟨0, by simp, rfl⟩ (by simp [go_sem, encG, encE]) ?_
   rintro n e ⟨k, hk, rfl⟩
   by_cases hlt : k < out.length
   ·obtain ⟨y, hy⟩ : ∃ y, out[k] = y := ⟨_, rfl⟩
    have hst : (out.take (k + 1)).any (sameX x) = ((out.take k).any (sameX x) || sameX x y) := by
     rw [List.take_succ_eq_append_getElem hlt, List.any_append, hy]
     simp
    obtain ⟨b, hb⟩ : ∃ b, (out.take k).any (sameX x) = b := ⟨_, rfl⟩
    rw [hb] at hst ⊢
    have hse : (sameX x y) = (y.send == x.send && (y.peer == x.peer && y.label == x.label)) := rfl
    rw [hse] at hst
    obtain ⟨v, hyv⟩ : ∃ v, valsDV y.vals = v := ⟨_, rfl⟩
    have hvo : (∃ els, v = .sl els) \/ v = .nil := by
     rw [<- hyv]
     cases y.vals with
     | none => exact .inr rfl
     | some els => exact .inl ⟨els, rfl⟩
    rcases hvo with ⟨els, rfl⟩ | rfl
    all_goals
     repeat' first | refine St.go ?_ | ((with_reducible refine cn ?_ ?_) <;> intro h <;> (try simp at h) <;> try omega) | (refine Ru.go ?_; intro K hK; simp [go_sem, hlt, hy, encE, hyv]; (try simp (disch := omega) only [wx, z_i]); (first | apply hK | refine ⟨by first | omega | (simp [z_f, z_g, hlt, hy, encE, hyv]; first | done | omega), ?_⟩ | refine ⟨hK _ ?_, fun h => ?_⟩ | refine ⟨?_, ?_⟩); all_goals ((try apply hK); clear hK K))
     ·exact fun h => ⟨h, fun h2 => ⟨h, h2⟩⟩
     ·exact fun h => ⟨h, fun h2 h3 => ⟨h, h2, h3⟩⟩
     refine z_j (n - 1) _ (by omega) ⟨k + 1, by omega, rfl⟩ ?_
     simp [go_sem, encG, encE, hst, Bool.and_assoc]
   ·have hkl : out.take k = out := List.take_of_length_le (by omega)
    rw [hkl]
    obtain ⟨b, hb⟩ : ∃ b, out.any (sameX x) = b := ⟨_, rfl⟩
    rw [hb] at hno ⊢
    obtain ⟨h0, hh0⟩ : ∃ h, H[rn] = h := ⟨_, rfl⟩
    have hl0 : h0.length <= 100000 := hh _ (hh0 ▸ List.getElem_mem hrn)
    have hap1 := appendOk_h (l := H) (by omega)
    have hap2 : z_f 5 56 [] (h0.map encE) := appendOk_e (l := []) (m := h0) (by simp; omega)
    have hap3 : z_f 5 56 (h0.map encE) [encE x] := appendOk_e (l := h0) (m := [x]) (by simp; omega)
    obtain ⟨mm, hmm⟩ : ∃ mm, h0 ++ [x] = mm := ⟨_, rfl⟩
    have hm2 : h0.map encE ++ [encE x] = mm.map encE := by
     rw [<- hmm, List.map_append]
     rfl
    have hmo : moreT H rn x = H.set rn mm := by
     unfold moreT
     rw [List.getElem?_eq_getElem hrn, hh0, <- hmm]
     rfl
    have hml : (moreT H rn x).length <= 1000000 := by
     rw [hmo, List.length_set]
     exact hl
    have hmh : ∀ l ∈ moreT H rn x, l.length <= 1000000 := fun l hl' => by
     rw [hmo] at hl'
     rcases List.mem_or_eq_of_mem_set hl' with h | h
     ·have := hh l h; omega
     ·rw [h, <- hmm]
      simp
      omega
    have j7 := f7 h109 g (moreT H rn x) sg hml hmh
    have hfr := frz_more H rn mm
    rw [hmo] at j7 hno
    obtain ⟨⟨o, c⟩, hc⟩ : ∃ v, searchF g (H.set rn mm) = v := ⟨_, rfl⟩
    rw [hc] at j7 hno
    simp only at hno
    obtain ⟨A, hA⟩ : ∃ A, actsF g o = A := ⟨_, rfl⟩
    simp only [hA, List.map_set, encG] at j7
    obtain ⟨v, hxv⟩ : ∃ v, valsDV x.vals = v := ⟨_, rfl⟩
    have hvo : (∃ els, v = .sl els) \/ v = .nil := by
     rw [<- hxv]
     cases x.vals with
     | none => exact .inr rfl
     | some els => exact .inl ⟨els, rfl⟩
    simp only [encE, hxr, hxv] at hap3 hm2
    rcases hvo with ⟨els, rfl⟩ | rfl
    all_goals
     by_cases hlo : x.label < 0
     ·have hb0 : b = false := by
       rw [<- hb, List.any_eq_false]
       intro y hy
       have := hlab y hy
       simp only [sameX, Bool.and_eq_true, beq_iff_eq]
       omega
      subst hb0
      have hc0 : ¬ c = 0 := fun h => by have := hno.2 h; cases this
      refine wV (aN hlt <| aN encE.eq_1 <| aN hxr <| aN hxv <| aN hlo <| aN hap1 <| aN hap2 <| aN hap3 <| aN hm2 <| aN hrn <| aN hh0 <| aN encH.eq_1 <| aN hfr <| aN encG.eq_1 hc0) j7 (H1.k ?_); intro h
      all_goals simp [go_sem, hc0]
     ·by_cases hhi : (g.decls.length : Int) <= x.label
      ·have hb0 : b = false := by
        rw [<- hb, List.any_eq_false]
        intro y hy
        have := hlab y hy
        simp only [sameX, Bool.and_eq_true, beq_iff_eq]
        omega
       subst hb0
       have hc0 : ¬ c = 0 := fun h => by have := hno.2 h; cases this
       refine wV (aN hlt <| aN encE.eq_1 <| aN hxr <| aN hxv <| aN hlo <| aN hhi <| aN hap1 <| aN hap2 <| aN hap3 <| aN hm2 <| aN hrn <| aN hh0 <| aN encH.eq_1 <| aN hfr <| aN encG.eq_1 hc0) j7 (H1.k ?_); intro h
       all_goals simp [go_sem, hc0]
      ·have hbc : b = decide (c = 0) := by
        rw [Bool.eq_iff_iff, hno]
        simp
       rw [hbc]
       by_cases hc0 : c = 0
       ·subst hc0
        refine wV (aN hlt <| aN encE.eq_1 <| aN hxr <| aN hxv <| aN hlo <| aN hhi <| aN hap1 <| aN hap2 <| aN hap3 <| aN hm2 <| aN hrn <| aN hh0 <| aN encH.eq_1 <| aN hfr encG.eq_1) j7 (H1.k ?_); intro h
        all_goals simp [go_sem]
       ·refine wV (aN hlt <| aN encE.eq_1 <| aN hxr <| aN hxv <| aN hlo <| aN hhi <| aN hap1 <| aN hap2 <| aN hap3 <| aN hm2 <| aN hrn <| aN hh0 <| aN encH.eq_1 <| aN hfr <| aN encG.eq_1 hc0) j7 (H1.k ?_); intro h
        all_goals simp [go_sem, hc0]
end Go.Av
