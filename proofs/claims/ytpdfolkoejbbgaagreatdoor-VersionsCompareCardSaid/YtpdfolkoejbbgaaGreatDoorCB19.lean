/- The reference's Compare computes what the program's does. -/
import Derived.Test.YtpdfolkoejbbgaaGreatDoorCB16
import Derived.Test.YtpdfolkoejbbgaaGreatDoorCB18
import Derived.Test.YtpdfolkoejbbgaaGreatDoorCB08
set_option linter.unusedVariables false
set_option linter.unusedSimpArgs false
set_option maxHeartbeats 64000000
set_option maxRecDepth 8000
namespace Go.Av
open Go Go.RowKit Go.Proofs
def encGdF (l : List Bool) : DV := if l.isEmpty then .nil else .sl (l.map encBl)
theorem frz_encGd (l : List Bool) : (encGd l).frz = encGdF l := by
 unfold encGd encGdF
 split <;> simp [DV.frz, frzLL_map, encBl, frzL]
theorem toward_encGdF (l : List Bool) : DV.toward (encGdF l) (.sl (l.map encBl)) := by
 unfold encGdF
 split
 ·rename_i h
  have : l = [] := by simpa using h
  subst this
  rfl
 ·rfl
theorem smallN_valid {g : Glob} (hv : validD g.decls = true) (hs : Small g) : SmallN g := by
 refine ⟨by have := hs.decls; omega, fun d hd => ?_⟩
 obtain ⟨i, hi, rfl⟩ := List.mem_iff_getElem.1 hd
 have h1 := (validD_decl hv hi).2.2.1
 have h2 := (validD_decl hv hi).2.1
 unfold validD at hv
 simp only [Bool.and_eq_true, decide_eq_true_eq] at hv
 have h3 : (allF (g.decls.take i)).length <= (allF g.decls).length := by
  have : allF g.decls = allF (g.decls.take i) ++ allF (g.decls.drop i) := by
   unfold allF
   rw [<- List.flatMap_append, List.take_append_drop]
  rw [this, List.length_append]
  omega
 omega
theorem bnd_valid {g : Glob} (hv : validD g.decls = true) {d : Dcl} (hd : d ∈ g.decls) : BndD d := by
 obtain ⟨i, hi, rfl⟩ := List.mem_iff_getElem.1 hd
 obtain ⟨_, h1, _, _, h2⟩ := validD_decl hv hi
 unfold validD at hv
 simp only [Bool.and_eq_true, decide_eq_true_eq] at hv
 unfold okGuard at h2
 simp only [Bool.and_eq_true, List.all_eq_true, decide_eq_true_eq] at h2
 obtain ⟨⟨⟨h3, h4⟩, h5⟩, h6⟩ := h2
 refine ⟨by omega, by omega, by omega, fun x hx => ?_, fun x hx => ?_⟩
 ·have := h5 x hx
  simp only [okDff, Bool.and_eq_true, decide_eq_true_eq] at this
  unfold InB
  omega
 ·have := h6 x hx
  simp only [isText, Bool.and_eq_true, decide_eq_true_eq] at this
  unfold InB
  omega
theorem fold_range (t : Tab) (ps : List Pr) (g : List Bool) (i : Nat) : (List.range (i + 1)).foldl (lookR t ps) g = lookR t ps ((List.range i).foldl (lookR t ps) g) i := by
 rw [List.range_succ, List.foldl_append]
 rfl
theorem f19 (a b : Glob) (sa : Small a) (sb : Small b) : Impl Tryz.prog 19 [.ag (encG a), .ag (encG b)] (.tup [.ag (encTab (compareV a b).1), .one (.int .i64 (compareV a b).2)]) := by
 have k26a := f26 a sa
 have k26b := f26 b sb
 rw [<- valid_eq] at k26a k26b
 have k50 := f50 a b (by have := sa.roles; omega) (by have := sb.roles; omega)
 have k52 : ∀ s, Impl Tryz.prog 52 [.ag (encG a), .one (.int .i64 s)] (.one (.one (.ow 1 ((sortedE a.edges s).map encN)))) := fun s => by
  have h := f52 a s sa
  have e : (edgesOf a.edges s).map encK = (sortedE a.edges s).map encN := by rw [<- edges_eq, List.map_map]; rfl
  rw [e] at h
  exact h
 simp only [encG] at k26a k26b k50 k52
 obtain ⟨⟨T, c⟩, hT⟩ : ∃ r, compareV a b = r := ⟨_, rfl⟩
 rw [hT]
 dsimp only
 refine impl_w Tryz.func19 z19 Tryz.ntmps19 (by simp) ?_
 simp only [slotsOf]
 conv => arg 2; reduce
 refine z_l [(5, .sv (.one (.int .i64 0))), (4, .sv (.one (.bx zT))), (3, .sv (.one (.bx (encG b)))), (2, .sv (.one (.bx (encG a))))] ?_ ?_
 ·skip
  repeat' first | refine St.go ?_ | ((with_reducible refine cn ?_ ?_) <;> intro h <;> (try simp at h) <;> try omega) | (refine Ru.go ?_; intro K H; simp [go_sem, encG]; (try simp (disch := omega) only [wx, z_i]); (first | apply H | refine ⟨by first | omega | (simp [z_f, z_g, encG]; first | done | omega), ?_⟩ | refine ⟨H _ ?_, fun h => ?_⟩ | refine ⟨?_, ?_⟩); all_goals ((try apply H); clear H K))
  refine z_m ?_
  first | (simp [go_sem, zT, encG]; done) | (simp [go_sem, zT, encG]; exact of_eq_true (le_self _))
 by_cases hv : valid29 a = true /\ valid29 b = true
 rotate_left
 ·have hTe : T = noTab /\ c = 1 := by
   have : compareV a b = (noTab, 1) := by unfold compareV; rw [if_neg hv]
   rw [this] at hT
   injection hT with h1 h2
   exact ⟨h1.symm, h2.symm⟩
  obtain ⟨rfl, rfl⟩ := hTe
  cases va : valid29 a with
  | false =>
    rw [va] at k26a
    repeat' first | refine St.go ?_ | ((with_reducible refine cn ?_ ?_) <;> intro h <;> (try simp at h) <;> try omega) | (refine Ru.go ?_; intro K H; simp [go_sem, encG, zT]; (try simp (disch := omega) only [wx, z_i]); (first | apply H | ((try refine .inl ?_); refine ⟨_, by (try intro hc); (repeat' first | exact k26a | exact k26b | exact hc | refine And.intro ?_ ?_ | simp [go_sem, encG, zT]); first | done | omega, ?_⟩; first | apply H | (refine ⟨by simp [go_sem, encG, zT], ?_⟩; first | apply H | refine ⟨by simp [go_sem, encG, zT], H _ _ ?_⟩)) | refine ⟨.one (.one (.bool false)), by simp [go_sem, encG, zT], H _ _ ?_⟩ | refine ⟨by first | omega | (simp [z_f, z_g, encG, zT]; first | done | omega), ?_⟩ | refine ⟨H _ ?_, fun h => ?_⟩ | refine ⟨?_, ?_⟩); all_goals ((try apply H); clear H K))
    simp [go_sem, encTab, noTab, noG, encG]
  | true =>
    have vb : valid29 b = false := by
     cases h : valid29 b
     ·rfl
     ·exact (hv ⟨va, h⟩).elim
    rw [va] at k26a
    rw [vb] at k26b
    repeat' first | refine St.go ?_ | ((with_reducible refine cn ?_ ?_) <;> intro h <;> (try simp at h) <;> try omega) | (refine Ru.go ?_; intro K H; simp [go_sem, encG, zT]; (try simp (disch := omega) only [wx, z_i]); (first | apply H | ((try refine .inl ?_); refine ⟨_, by (try intro hc); (repeat' first | exact k26a | exact k26b | exact hc | refine And.intro ?_ ?_ | simp [go_sem, encG, zT]); first | done | omega, ?_⟩; first | apply H | (refine ⟨by simp [go_sem, encG, zT], ?_⟩; first | apply H | refine ⟨by simp [go_sem, encG, zT], H _ _ ?_⟩)) | refine ⟨.one (.one (.bool false)), by simp [go_sem, encG, zT], H _ _ ?_⟩ | refine ⟨by first | omega | (simp [z_f, z_g, encG, zT]; first | done | omega), ?_⟩ | refine ⟨H _ ?_, fun h => ?_⟩ | refine ⟨?_, ?_⟩); all_goals ((try apply H); clear H K))
    simp [go_sem, encTab, noTab, noG, encG]
 obtain ⟨va, vb⟩ := hv
 rw [va] at k26a
 rw [vb] at k26b
 refine z_l [(5, .sv (.one (.int .i64 0))), (4, .sv (.one (.bx zT))), (3, .sv (.one (.bx (encG b)))), (2, .sv (.one (.bx (encG a))))] ?_ ?_
 ·skip
  repeat' first | refine St.go ?_ | ((with_reducible refine cn ?_ ?_) <;> intro h <;> (try simp at h) <;> try omega) | (refine Ru.go ?_; intro K H; simp [go_sem, encG]; (try simp (disch := omega) only [wx, z_i]); (first | apply H | ((try refine .inl ?_); refine ⟨_, by (try intro hc); (repeat' first | exact k26a | exact k26b | exact hc | refine And.intro ?_ ?_ | simp [go_sem, encG]); first | done | omega, ?_⟩; first | apply H | (refine ⟨by simp [go_sem, encG], ?_⟩; first | apply H | refine ⟨by simp [go_sem, encG], H _ _ ?_⟩)) | refine ⟨.one (.one (.bool false)), by simp [go_sem, encG], H _ _ ?_⟩ | refine ⟨by first | omega | (simp [z_f, z_g, encG]; first | done | omega), ?_⟩ | refine ⟨H _ ?_, fun h => ?_⟩ | refine ⟨?_, ?_⟩); all_goals ((try apply H); clear H K))
  refine z_m ?_
  first | (simp [go_sem, encG]; done) | (simp [go_sem, encG]; exact of_eq_true (le_self _))
 by_cases hr : a.roles = b.roles
 rotate_left
 ·have hTe : T = noTab /\ c = 24 := by
   have : compareV a b = (noTab, 24) := by unfold compareV; rw [if_pos ⟨va, vb⟩, if_neg hr]
   rw [this] at hT
   injection hT with h1 h2
   exact ⟨h1.symm, h2.symm⟩
  obtain ⟨rfl, rfl⟩ := hTe
  rw [decide_eq_false hr] at k50
  repeat' first | refine St.go ?_ | ((with_reducible refine cn ?_ ?_) <;> intro h <;> (try simp at h) <;> try omega) | (refine Ru.go ?_; intro K H; simp [go_sem, encG, zT]; (try simp (disch := omega) only [wx, z_i]); (first | apply H | ((try refine .inl ?_); refine ⟨_, by (try intro hc); (repeat' first | exact k50 | exact hc | refine And.intro ?_ ?_ | simp [go_sem, encG, zT]); first | done | omega, ?_⟩; first | apply H | (refine ⟨by simp [go_sem, encG, zT], ?_⟩; first | apply H | refine ⟨by simp [go_sem, encG, zT], H _ _ ?_⟩)) | refine ⟨.one (.one (.bool false)), by simp [go_sem, encG, zT], H _ _ ?_⟩ | refine ⟨by first | omega | (simp [z_f, z_g, encG, zT]; first | done | omega), ?_⟩ | refine ⟨H _ ?_, fun h => ?_⟩ | refine ⟨?_, ?_⟩); all_goals ((try apply H); clear H K))
  simp [go_sem, encTab, noTab, noG, encG]
 rw [decide_eq_true hr] at k50
 refine z_l [(5, .sv (.one (.int .i64 0))), (4, .sv (.one (.bx zT))), (3, .sv (.one (.bx (encG b)))), (2, .sv (.one (.bx (encG a))))] ?_ ?_
 ·skip
  repeat' first | refine St.go ?_ | ((with_reducible refine cn ?_ ?_) <;> intro h <;> (try simp at h) <;> try omega) | (refine Ru.go ?_; intro K H; simp [go_sem, encG]; (try simp (disch := omega) only [wx, z_i]); (first | apply H | ((try refine .inl ?_); refine ⟨_, by (try intro hc); (repeat' first | exact k50 | exact hc | refine And.intro ?_ ?_ | simp [go_sem, encG]); first | done | omega, ?_⟩; first | apply H | (refine ⟨by simp [go_sem, encG], ?_⟩; first | apply H | refine ⟨by simp [go_sem, encG], H _ _ ?_⟩)) | refine ⟨.one (.one (.bool false)), by simp [go_sem, encG], H _ _ ?_⟩ | refine ⟨by first | omega | (simp [z_f, z_g, encG]; first | done | omega), ?_⟩ | refine ⟨H _ ?_, fun h => ?_⟩ | refine ⟨?_, ?_⟩); all_goals ((try apply H); clear H K))
  refine z_m ?_
  first | (simp [go_sem, encG]; done) | (simp [go_sem, encG]; exact of_eq_true (le_self _))
 refine z_l [(6, .sv (.one (.bx (encG a ++ (encG b ++ [.nil, .nil, .nil]))))), (5, .sv (.one (.int .i64 0))), (4, .sv (.one (.bx zT))), (3, .sv (.one (.bx (encG b)))), (2, .sv (.one (.bx (encG a))))] ?_ ?_
 ·skip
  repeat' first | refine St.go ?_ | ((with_reducible refine cn ?_ ?_) <;> intro h <;> (try simp at h) <;> try omega) | (refine Ru.go ?_; intro K H; simp [go_sem, encG]; (try simp (disch := omega) only [wx, z_i]); (first | apply H | refine ⟨by first | omega | (simp [z_f, z_g, encG]; first | done | omega), ?_⟩ | refine ⟨H _ ?_, fun h => ?_⟩ | refine ⟨?_, ?_⟩); all_goals ((try apply H); clear H K))
  refine z_m ?_
  first | (simp [go_sem, encG]; done) | (simp [go_sem, encG]; exact of_eq_true (le_self _))
 have sad := sa.decls
 have sna := smallN_valid (valid_num va).2 sa
 have snb := smallN_valid (valid_num vb).2 sb
 have hstep : ∀ k (hk : k < a.decls.length), Impl Tryz.prog 27 [.ag (encG b), .one (.str a.decls[k].name)] (.one (.one (.int .i64 (labAt b a.decls[k])))) := fun k _ => f27 b _ (by have := sb.decls; omega)
 have hagr : ∀ k (hk : k < a.decls.length) (e : Dcl), e ∈ b.decls -> Impl Tryz.prog 51 [.ag (encG a), .ag (encD a.decls[k]), .ag (encG b), .ag (encD e)] (.one (.one (.bool (agreeB (varsOf a.decls) (varsOf b.decls) a.decls[k] e)))) := fun k hk e he => by
  have h := f51 a b _ e sna snb (bnd_valid (valid_num va).2 (List.getElem_mem hk)) (bnd_valid (valid_num vb).2 he)
  rw [agree_eq (valid_num va).2 (valid_num vb).2] at h
  exact h
 by_cases hall : a.decls.all (okLab a b) = true
 rotate_left
 ·skip
  have hTe : T = noTab /\ c = 24 := by
   have : compareV a b = (noTab, 24) := by unfold compareV; rw [if_pos ⟨va, vb⟩, if_pos hr, if_neg hall]
   rw [this] at hT
   injection hT with h1 h2
   exact ⟨h1.symm, h2.symm⟩
  obtain ⟨rfl, rfl⟩ := hTe
  repeat' first | refine St.go ?_ | ((with_reducible refine cn ?_ ?_) <;> intro h <;> (try simp at h) <;> try omega) | (refine Ru.go ?_; intro K H; simp [go_sem, encG]; (try simp (disch := omega) only [wx, z_i]); (first | apply H | refine ⟨by first | omega | (simp [z_f, z_g, encG]; first | done | omega), ?_⟩ | refine ⟨H _ ?_, fun h => ?_⟩ | refine ⟨?_, ?_⟩); all_goals ((try apply H); clear H K))
  refine z_k (fun n e => ∃ k : Nat, k + n = a.decls.length /\ (a.decls.take k).all (okLab a b) = true /\ e = [(7, .sv (.one (.int .i64 k))), (6, .sv (.one (.bx (encG a ++ (encG b ++ [encRow ((a.decls.take k).map (labAt b)), .nil, .nil]))))), (5, .sv (.one (.int .i64 0))), (4, .sv (.one (.bx zT))), (3, .sv (.one (.bx (encG b)))), (2, .sv (.one (.bx (encG a))))]) a.decls.length _ ⟨0, by simp, by simp, rfl⟩ (by simp [go_sem, encG, encRow_nil]) ?_
  rintro n e ⟨k, hk, hpre, rfl⟩
  by_cases hlt : k < a.decls.length
  ·skip
   obtain ⟨d, hdk⟩ : ∃ d, a.decls[k] = d := ⟨_, rfl⟩
   have j45 := hstep k hlt
   have j46 := hagr k hlt
   rw [hdk] at j45 j46
   obtain ⟨lb, hlb⟩ : ∃ lb, labAt b d = lb := ⟨_, rfl⟩
   rw [hlb] at j45
   simp only [encG] at j45 j46
   have hsucc : (a.decls.take (k + 1)).map (labAt b) = (a.decls.take k).map (labAt b) ++ [lb] := by
    rw [List.take_succ_eq_append_getElem hlt, hdk, List.map_append, <- hlb]; rfl
   have hap : ∀ l : List Int, l.length <= 1000 -> z_f 1 8 (l.map encN) [[.int .i64 lb]] := by
    intro l hl
    refine ⟨?_, ?_, by omega, ?_, ?_⟩
    ·intro e he; rw [List.mem_singleton.1 he]; rfl
    ·intro e he; rw [List.mem_singleton.1 he]; rfl
    ·simp only [List.length_map, List.length_singleton, maxLen]; omega
    ·simp only [List.length_map, List.length_singleton]; omega
   have hlen : ((a.decls.take k).map (labAt b)).length <= 1000 := by
    have := sa.decls
    rw [List.length_map, List.length_take]; omega
   have hap0 := hap [] (by simp)
   have hap1 := hap _ hlen
   simp only [List.map_nil] at hap0
   obtain ⟨ls, hls⟩ : ∃ ls, (a.decls.take k).map (labAt b) = ls := ⟨_, rfl⟩
   rw [hls] at hap1 hsucc
   have hls0 : k = 0 -> ls = [] := fun h => by rw [<- hls, h]; rfl
   have hls1 : 0 < k -> encRow ls = .ow 1 (ls.map encN) := fun h => encRow_pos (fun e => by
    have h9 := congrArg List.length (hls.trans e)
    simp only [List.length_map, List.length_take, List.length_nil] at h9
    omega)
   rw [hls]
   cases hok : okLab a b d with
   | true =>
     have hpre2 : (a.decls.take (k + 1)).all (okLab a b) = true := by
      rw [List.take_succ_eq_append_getElem hlt, hdk, List.all_append, hpre]; simp [hok]
     unfold okLab at hok
     rw [hlb] at hok
     by_cases h0 : 0 <= lb
     ·have hlb2 : lb.toNat < b.decls.length := by
       have h2 : 0 <= labAt b d := by rw [hlb]; exact h0
       have h3 := firstB_lt h2
       change (labAt b d).toNat < _ at h3
       rwa [hlb] at h3
      obtain ⟨ee, hee⟩ : ∃ ee, b.decls[lb.toNat] = ee := ⟨_, rfl⟩
      have j46 := j46 ee (hee ▸ List.getElem_mem hlb2)
      have hagrT : agreeB (varsOf a.decls) (varsOf b.decls) d ee = true := by
       simp only [List.getElem?_eq_getElem hlb2, hee, Option.getD_some, Bool.or_eq_true, decide_eq_true_eq] at hok
       rcases hok with h | h
       ·omega
       ·exact h
      rw [hagrT] at j46
      simp only [encD] at j46
      have hg0 : (lb >= 0) = True := eq_true h0
      by_cases hk0 : k = 0
      ·subst hk0
       have e0 := hls0 rfl
       subst e0
       have q_ := aN hlt <| aN hdk <| aN h0 <| aN hg0 <| aN hlb2 <| aN hee <| hap0
       have q0 := aN @encD.eq_1 <| aN @encG.eq_1 <| @encRow_nil
       repeat' first | refine St.go ?_ | ((with_reducible refine cn ?_ ?_) <;> intro h <;> (try simp [q_] at h) <;> try omega) | (refine Ru.go ?_; intro K H; simp [go_sem, q_, q0]; (try simp (disch := omega) only [wx, z_i]); (first | apply H | ((try refine .inl ?_); refine ⟨_, by (try intro hc); (repeat' first | exact j45 | exact j46 | exact hc | refine And.intro ?_ ?_ | simp [go_sem, q_, q0]); first | done | omega, ?_⟩; first | apply H | (refine ⟨by simp [go_sem, q_, q0], ?_⟩; first | apply H | refine ⟨by simp [go_sem, q_, q0], H _ _ ?_⟩)) | refine ⟨.one (.one (.bool false)), by simp [go_sem, q_, q0], H _ _ ?_⟩ | refine ⟨by first | omega | (simp [z_f, z_g, q_, q0]; first | done | omega), ?_⟩ | refine ⟨H _ ?_, fun h => ?_⟩ | refine ⟨?_, ?_⟩); all_goals ((try apply H); clear H K))
       all_goals try clear q0
       all_goals try clear q_
       refine z_j (n - 1) _ (by omega) ⟨0 + 1, by omega, hpre2, rfl⟩ ?_
       simp [go_sem, encG, hsucc, encRow_pos, encN]
      ·rw [hls1 (by omega)]
       have q_ := aN hlt <| aN hdk <| aN h0 <| aN hg0 <| aN hlb2 <| aN hee <| hap1
       have q0 := aN @encD.eq_1 <| aN @encG.eq_1 <| aN @hasOw_cons <| aN @Bool.or_true <| @Bool.true_or
       repeat' first | refine St.go ?_ | ((with_reducible refine cn ?_ ?_) <;> intro h <;> (try simp [q_] at h) <;> try omega) | (refine Ru.go ?_; intro K H; simp [go_sem, isOw, q_, q0]; (try simp (disch := omega) only [wx, z_i]); (first | apply H | ((try refine .inl ?_); refine ⟨_, by (try intro hc); (repeat' first | exact j45 | exact j46 | exact hc | refine And.intro ?_ ?_ | simp [go_sem, isOw, q_, q0]); first | done | omega, ?_⟩; first | apply H | (refine ⟨by simp [go_sem, isOw, q_, q0], ?_⟩; first | apply H | refine ⟨by simp [go_sem, isOw, q_, q0], H _ _ ?_⟩)) | refine ⟨.one (.one (.bool false)), by simp [go_sem, isOw, q_, q0], H _ _ ?_⟩ | refine ⟨by first | omega | (simp [z_f, z_g, isOw, q_, q0]; first | done | omega), ?_⟩ | refine ⟨H _ ?_, fun h => ?_⟩ | refine ⟨?_, ?_⟩); all_goals ((try apply H); clear H K))
       all_goals try clear q0
       all_goals try clear q_
       refine z_j (n - 1) _ (by omega) ⟨k + 1, by omega, hpre2, rfl⟩ ?_
       simp [go_sem, encG, hsucc, encRow_pos, encN]
     ·have hg0 : (lb >= 0) = False := eq_false h0
      cases hv2 : b.decls[lb.toNat]? with
      | none =>
        by_cases hk0 : k = 0
        ·subst hk0
         have e0 := hls0 rfl
         subst e0
         have q_ := aN hlt <| aN hdk <| aN h0 <| aN hg0 <| aN hv2 <| hap0
         have q0 := aN @encD.eq_1 <| aN @encG.eq_1 <| @encRow_nil
         repeat' first | refine St.go ?_ | ((with_reducible refine cn ?_ ?_) <;> intro h <;> (try simp [q_] at h) <;> try omega) | (refine Ru.go ?_; intro K H; simp [go_sem, q_, q0]; (try simp (disch := omega) only [wx, z_i]); (first | apply H | ((try refine .inl ?_); refine ⟨_, by (try intro hc); (repeat' first | exact j45 | exact hc | refine And.intro ?_ ?_ | simp [go_sem, q_, q0]); first | done | omega, ?_⟩; first | apply H | (refine ⟨by simp [go_sem, q_, q0], ?_⟩; first | apply H | refine ⟨by simp [go_sem, q_, q0], H _ _ ?_⟩)) | refine ⟨.one (.one (.bool false)), by simp [go_sem, q_, q0], H _ _ ?_⟩ | refine ⟨by first | omega | (simp [z_f, z_g, q_, q0]; first | done | omega), ?_⟩ | refine ⟨H _ ?_, fun h => ?_⟩ | refine ⟨?_, ?_⟩); all_goals ((try apply H); clear H K))
         all_goals try clear q0
         all_goals try clear q_
         refine z_j (n - 1) _ (by omega) ⟨0 + 1, by omega, hpre2, rfl⟩ ?_
         simp [go_sem, encG, hsucc, encRow_pos, encN]
        ·rw [hls1 (by omega)]
         have q_ := aN hlt <| aN hdk <| aN h0 <| aN hg0 <| aN hv2 <| hap1
         repeat' first | refine St.go ?_ | ((with_reducible refine cn ?_ ?_) <;> intro h <;> (try simp [q_] at h) <;> try omega) | (refine Ru.go ?_; intro K H; simp [go_sem, encD, encG, q_]; (try simp (disch := omega) only [wx, z_i]); (first | apply H | ((try refine .inl ?_); refine ⟨_, by (try intro hc); (repeat' first | exact j45 | exact hc | refine And.intro ?_ ?_ | simp [go_sem, encD, encG, q_]); first | done | omega, ?_⟩; first | apply H | (refine ⟨by simp [go_sem, encD, encG, q_], ?_⟩; first | apply H | refine ⟨by simp [go_sem, encD, encG, q_], H _ _ ?_⟩)) | refine ⟨.one (.one (.bool false)), by simp [go_sem, encD, encG, q_], H _ _ ?_⟩ | refine ⟨by first | omega | (simp [z_f, z_g, encD, encG, q_]; first | done | omega), ?_⟩ | refine ⟨H _ ?_, fun h => ?_⟩ | refine ⟨?_, ?_⟩); all_goals ((try apply H); clear H K))
         all_goals try clear q_
         refine z_j (n - 1) _ (by omega) ⟨k + 1, by omega, hpre2, rfl⟩ ?_
         simp [go_sem, encG, hsucc, encRow_pos, encN]
      | some ev =>
        by_cases hk0 : k = 0
        ·subst hk0
         have e0 := hls0 rfl
         subst e0
         have q_ := aN hlt <| aN hdk <| aN h0 <| aN hg0 <| aN hv2 <| hap0
         have q0 := aN @encD.eq_1 <| aN @encG.eq_1 <| @encRow_nil
         repeat' first | refine St.go ?_ | ((with_reducible refine cn ?_ ?_) <;> intro h <;> (try simp [q_] at h) <;> try omega) | (refine Ru.go ?_; intro K H; simp [go_sem, q_, q0]; (try simp (disch := omega) only [wx, z_i]); (first | apply H | ((try refine .inl ?_); refine ⟨_, by (try intro hc); (repeat' first | exact j45 | exact hc | refine And.intro ?_ ?_ | simp [go_sem, q_, q0]); first | done | omega, ?_⟩; first | apply H | (refine ⟨by simp [go_sem, q_, q0], ?_⟩; first | apply H | refine ⟨by simp [go_sem, q_, q0], H _ _ ?_⟩)) | refine ⟨.one (.one (.bool false)), by simp [go_sem, q_, q0], H _ _ ?_⟩ | refine ⟨by first | omega | (simp [z_f, z_g, q_, q0]; first | done | omega), ?_⟩ | refine ⟨H _ ?_, fun h => ?_⟩ | refine ⟨?_, ?_⟩); all_goals ((try apply H); clear H K))
         all_goals try clear q0
         all_goals try clear q_
         refine z_j (n - 1) _ (by omega) ⟨0 + 1, by omega, hpre2, rfl⟩ ?_
         simp [go_sem, encG, hsucc, encRow_pos, encN]
        ·rw [hls1 (by omega)]
         have q_ := aN hlt <| aN hdk <| aN h0 <| aN hg0 <| aN hv2 <| hap1
         repeat' first | refine St.go ?_ | ((with_reducible refine cn ?_ ?_) <;> intro h <;> (try simp [q_] at h) <;> try omega) | (refine Ru.go ?_; intro K H; simp [go_sem, encD, encG, q_]; (try simp (disch := omega) only [wx, z_i]); (first | apply H | ((try refine .inl ?_); refine ⟨_, by (try intro hc); (repeat' first | exact j45 | exact hc | refine And.intro ?_ ?_ | simp [go_sem, encD, encG, q_]); first | done | omega, ?_⟩; first | apply H | (refine ⟨by simp [go_sem, encD, encG, q_], ?_⟩; first | apply H | refine ⟨by simp [go_sem, encD, encG, q_], H _ _ ?_⟩)) | refine ⟨.one (.one (.bool false)), by simp [go_sem, encD, encG, q_], H _ _ ?_⟩ | refine ⟨by first | omega | (simp [z_f, z_g, encD, encG, q_]; first | done | omega), ?_⟩ | refine ⟨H _ ?_, fun h => ?_⟩ | refine ⟨?_, ?_⟩); all_goals ((try apply H); clear H K))
         all_goals try clear q_
         refine z_j (n - 1) _ (by omega) ⟨k + 1, by omega, hpre2, rfl⟩ ?_
         simp [go_sem, encG, hsucc, encRow_pos, encN]
   | false =>
     unfold okLab at hok
     rw [hlb] at hok
     simp only [Bool.or_eq_false_iff, decide_eq_false_iff_not] at hok
     obtain ⟨hok1, hok2⟩ := hok
     have h0 : 0 <= lb := by omega
     have hlb2 : lb.toNat < b.decls.length := by
      have h2 : 0 <= labAt b d := by rw [hlb]; exact h0
      have h3 := firstB_lt h2
      change (labAt b d).toNat < _ at h3
      rwa [hlb] at h3
     obtain ⟨ee, hee⟩ : ∃ ee, b.decls[lb.toNat] = ee := ⟨_, rfl⟩
     have j46 := j46 ee (hee ▸ List.getElem_mem hlb2)
     simp only [List.getElem?_eq_getElem hlb2, hee, Option.getD_some] at hok2
     rw [hok2] at j46
     simp only [encD] at j46
     have hg0 : (lb >= 0) = True := eq_true h0
     have q_ := aN hlt <| aN hdk <| aN h0 <| aN hg0 <| aN hlb2 <| hee
     repeat' first | refine St.go ?_ | ((with_reducible refine cn ?_ ?_) <;> intro h <;> (try simp [q_] at h) <;> try omega) | (refine Ru.go ?_; intro K H; simp [go_sem, encD, encG, zT, q_]; (try simp (disch := omega) only [wx, z_i]); (first | apply H | ((try refine .inl ?_); refine ⟨_, by (try intro hc); (repeat' first | exact j45 | exact j46 | exact hc | refine And.intro ?_ ?_ | simp [go_sem, encD, encG, zT, q_]); first | done | omega, ?_⟩; first | apply H | (refine ⟨by simp [go_sem, encD, encG, zT, q_], ?_⟩; first | apply H | refine ⟨by simp [go_sem, encD, encG, zT, q_], H _ _ ?_⟩)) | refine ⟨.one (.one (.bool false)), by simp [go_sem, encD, encG, zT, q_], H _ _ ?_⟩ | refine ⟨by first | omega | (simp [z_f, z_g, encD, encG, zT, q_]; first | done | omega), ?_⟩ | refine ⟨H _ ?_, fun h => ?_⟩ | refine ⟨?_, ?_⟩); all_goals ((try apply H); clear H K))
     all_goals try clear q_
     simp [go_sem, encTab, noTab, noG, encG]
  ·have hkl : a.decls.take k = a.decls := List.take_of_length_le (by omega)
   rw [hkl] at hpre
   exact (hall hpre).elim
 have hTe : T = cmpTab a b /\ c = 0 := by
  have : compareV a b = (cmpTab a b, 0) := by unfold compareV; rw [if_pos ⟨va, vb⟩, if_pos hr, if_pos hall]
  rw [this] at hT
  injection hT with h1 h2
  exact ⟨h1.symm, h2.symm⟩
 obtain ⟨rfl, rfl⟩ := hTe
 refine z_l [(6, .sv (.one (.bx (encG a ++ (encG b ++ [encRow (a.decls.map (labAt b)), .nil, .nil]))))), (5, .sv (.one (.int .i64 0))), (4, .sv (.one (.bx zT))), (3, .sv (.one (.bx (encG b)))), (2, .sv (.one (.bx (encG a))))] ?_ ?_
 ·skip
  repeat' first | refine St.go ?_ | ((with_reducible refine cn ?_ ?_) <;> intro h <;> (try simp at h) <;> try omega) | (refine Ru.go ?_; intro K H; simp [go_sem, encG]; (try simp (disch := omega) only [wx, z_i]); (first | apply H | refine ⟨by first | omega | (simp [z_f, z_g, encG]; first | done | omega), ?_⟩ | refine ⟨H _ ?_, fun h => ?_⟩ | refine ⟨?_, ?_⟩); all_goals ((try apply H); clear H K))
  refine z_k (fun n e => ∃ k : Nat, k + n = a.decls.length /\ e = [(7, .sv (.one (.int .i64 k))), (6, .sv (.one (.bx (encG a ++ (encG b ++ [encRow ((a.decls.take k).map (labAt b)), .nil, .nil]))))), (5, .sv (.one (.int .i64 0))), (4, .sv (.one (.bx zT))), (3, .sv (.one (.bx (encG b)))), (2, .sv (.one (.bx (encG a))))]) a.decls.length _ ⟨0, by simp, rfl⟩ (by simp [go_sem, encG, encRow_nil]) ?_
  rintro n e ⟨k, hk, rfl⟩
  by_cases hlt : k < a.decls.length
  ·skip
   obtain ⟨d, hdk⟩ : ∃ d, a.decls[k] = d := ⟨_, rfl⟩
   have j45 := hstep k hlt
   have j46 := hagr k hlt
   rw [hdk] at j45 j46
   obtain ⟨lb, hlb⟩ : ∃ lb, labAt b d = lb := ⟨_, rfl⟩
   rw [hlb] at j45
   simp only [encG] at j45 j46
   have hsucc : (a.decls.take (k + 1)).map (labAt b) = (a.decls.take k).map (labAt b) ++ [lb] := by
    rw [List.take_succ_eq_append_getElem hlt, hdk, List.map_append, <- hlb]; rfl
   have hap : ∀ l : List Int, l.length <= 1000 -> z_f 1 8 (l.map encN) [[.int .i64 lb]] := by
    intro l hl
    refine ⟨?_, ?_, by omega, ?_, ?_⟩
    ·intro e he; rw [List.mem_singleton.1 he]; rfl
    ·intro e he; rw [List.mem_singleton.1 he]; rfl
    ·simp only [List.length_map, List.length_singleton, maxLen]; omega
    ·simp only [List.length_map, List.length_singleton]; omega
   have hlen : ((a.decls.take k).map (labAt b)).length <= 1000 := by
    have := sa.decls
    rw [List.length_map, List.length_take]; omega
   have hap0 := hap [] (by simp)
   have hap1 := hap _ hlen
   simp only [List.map_nil] at hap0
   obtain ⟨ls, hls⟩ : ∃ ls, (a.decls.take k).map (labAt b) = ls := ⟨_, rfl⟩
   rw [hls] at hap1 hsucc
   have hls0 : k = 0 -> ls = [] := fun h => by rw [<- hls, h]; rfl
   have hls1 : 0 < k -> encRow ls = .ow 1 (ls.map encN) := fun h => encRow_pos (fun e => by
    have h9 := congrArg List.length (hls.trans e)
    simp only [List.length_map, List.length_take, List.length_nil] at h9
    omega)
   rw [hls]
   have hok : okLab a b d = true := by
    rw [<- hdk]; exact List.all_eq_true.1 hall _ (List.getElem_mem hlt)
   unfold okLab at hok
   rw [hlb] at hok
   by_cases h0 : 0 <= lb
   ·have hlb2 : lb.toNat < b.decls.length := by
     have h2 : 0 <= labAt b d := by rw [hlb]; exact h0
     have h3 := firstB_lt h2
     change (labAt b d).toNat < _ at h3
     rwa [hlb] at h3
    obtain ⟨ee, hee⟩ : ∃ ee, b.decls[lb.toNat] = ee := ⟨_, rfl⟩
    have j46 := j46 ee (hee ▸ List.getElem_mem hlb2)
    have hagrT : agreeB (varsOf a.decls) (varsOf b.decls) d ee = true := by
     simp only [List.getElem?_eq_getElem hlb2, hee, Option.getD_some, Bool.or_eq_true, decide_eq_true_eq] at hok
     rcases hok with h | h
     ·omega
     ·exact h
    rw [hagrT] at j46
    simp only [encD] at j46
    have hg0 : (lb >= 0) = True := eq_true h0
    by_cases hk0 : k = 0
    ·subst hk0
     have e0 := hls0 rfl
     subst e0
     have q_ := aN hlt <| aN hdk <| aN h0 <| aN hg0 <| aN hlb2 <| aN hee <| hap0
     have q0 := aN @encD.eq_1 <| aN @encG.eq_1 <| @encRow_nil
     repeat' first | refine St.go ?_ | ((with_reducible refine cn ?_ ?_) <;> intro h <;> (try simp [q_] at h) <;> try omega) | (refine Ru.go ?_; intro K H; simp [go_sem, q_, q0]; (try simp (disch := omega) only [wx, z_i]); (first | apply H | ((try refine .inl ?_); refine ⟨_, by (try intro hc); (repeat' first | exact j45 | exact j46 | exact hc | refine And.intro ?_ ?_ | simp [go_sem, q_, q0]); first | done | omega, ?_⟩; first | apply H | (refine ⟨by simp [go_sem, q_, q0], ?_⟩; first | apply H | refine ⟨by simp [go_sem, q_, q0], H _ _ ?_⟩)) | refine ⟨.one (.one (.bool false)), by simp [go_sem, q_, q0], H _ _ ?_⟩ | refine ⟨by first | omega | (simp [z_f, z_g, q_, q0]; first | done | omega), ?_⟩ | refine ⟨H _ ?_, fun h => ?_⟩ | refine ⟨?_, ?_⟩); all_goals ((try apply H); clear H K))
     all_goals try clear q0
     all_goals try clear q_
     refine z_j (n - 1) _ (by omega) ⟨0 + 1, by omega, rfl⟩ ?_
     simp [go_sem, encG, hsucc, encRow_pos, encN]
    ·rw [hls1 (by omega)]
     have q_ := aN hlt <| aN hdk <| aN h0 <| aN hg0 <| aN hlb2 <| aN hee <| hap1
     have q0 := aN @encD.eq_1 <| aN @encG.eq_1 <| aN @hasOw_cons <| aN @Bool.or_true <| @Bool.true_or
     repeat' first | refine St.go ?_ | ((with_reducible refine cn ?_ ?_) <;> intro h <;> (try simp [q_] at h) <;> try omega) | (refine Ru.go ?_; intro K H; simp [go_sem, isOw, q_, q0]; (try simp (disch := omega) only [wx, z_i]); (first | apply H | ((try refine .inl ?_); refine ⟨_, by (try intro hc); (repeat' first | exact j45 | exact j46 | exact hc | refine And.intro ?_ ?_ | simp [go_sem, isOw, q_, q0]); first | done | omega, ?_⟩; first | apply H | (refine ⟨by simp [go_sem, isOw, q_, q0], ?_⟩; first | apply H | refine ⟨by simp [go_sem, isOw, q_, q0], H _ _ ?_⟩)) | refine ⟨.one (.one (.bool false)), by simp [go_sem, isOw, q_, q0], H _ _ ?_⟩ | refine ⟨by first | omega | (simp [z_f, z_g, isOw, q_, q0]; first | done | omega), ?_⟩ | refine ⟨H _ ?_, fun h => ?_⟩ | refine ⟨?_, ?_⟩); all_goals ((try apply H); clear H K))
     all_goals try clear q0
     all_goals try clear q_
     refine z_j (n - 1) _ (by omega) ⟨k + 1, by omega, rfl⟩ ?_
     simp [go_sem, encG, hsucc, encRow_pos, encN]
   ·have hg0 : (lb >= 0) = False := eq_false h0
    cases hv2 : b.decls[lb.toNat]? with
    | none =>
      by_cases hk0 : k = 0
      ·subst hk0
       have e0 := hls0 rfl
       subst e0
       have q_ := aN hlt <| aN hdk <| aN h0 <| aN hg0 <| aN hv2 <| hap0
       have q0 := aN @encD.eq_1 <| aN @encG.eq_1 <| @encRow_nil
       repeat' first | refine St.go ?_ | ((with_reducible refine cn ?_ ?_) <;> intro h <;> (try simp [q_] at h) <;> try omega) | (refine Ru.go ?_; intro K H; simp [go_sem, q_, q0]; (try simp (disch := omega) only [wx, z_i]); (first | apply H | ((try refine .inl ?_); refine ⟨_, by (try intro hc); (repeat' first | exact j45 | exact hc | refine And.intro ?_ ?_ | simp [go_sem, q_, q0]); first | done | omega, ?_⟩; first | apply H | (refine ⟨by simp [go_sem, q_, q0], ?_⟩; first | apply H | refine ⟨by simp [go_sem, q_, q0], H _ _ ?_⟩)) | refine ⟨.one (.one (.bool false)), by simp [go_sem, q_, q0], H _ _ ?_⟩ | refine ⟨by first | omega | (simp [z_f, z_g, q_, q0]; first | done | omega), ?_⟩ | refine ⟨H _ ?_, fun h => ?_⟩ | refine ⟨?_, ?_⟩); all_goals ((try apply H); clear H K))
       all_goals try clear q0
       all_goals try clear q_
       refine z_j (n - 1) _ (by omega) ⟨0 + 1, by omega, rfl⟩ ?_
       simp [go_sem, encG, hsucc, encRow_pos, encN]
      ·rw [hls1 (by omega)]
       have q_ := aN hlt <| aN hdk <| aN h0 <| aN hg0 <| aN hv2 <| hap1
       repeat' first | refine St.go ?_ | ((with_reducible refine cn ?_ ?_) <;> intro h <;> (try simp [q_] at h) <;> try omega) | (refine Ru.go ?_; intro K H; simp [go_sem, encD, encG, q_]; (try simp (disch := omega) only [wx, z_i]); (first | apply H | ((try refine .inl ?_); refine ⟨_, by (try intro hc); (repeat' first | exact j45 | exact hc | refine And.intro ?_ ?_ | simp [go_sem, encD, encG, q_]); first | done | omega, ?_⟩; first | apply H | (refine ⟨by simp [go_sem, encD, encG, q_], ?_⟩; first | apply H | refine ⟨by simp [go_sem, encD, encG, q_], H _ _ ?_⟩)) | refine ⟨.one (.one (.bool false)), by simp [go_sem, encD, encG, q_], H _ _ ?_⟩ | refine ⟨by first | omega | (simp [z_f, z_g, encD, encG, q_]; first | done | omega), ?_⟩ | refine ⟨H _ ?_, fun h => ?_⟩ | refine ⟨?_, ?_⟩); all_goals ((try apply H); clear H K))
       all_goals try clear q_
       refine z_j (n - 1) _ (by omega) ⟨k + 1, by omega, rfl⟩ ?_
       simp [go_sem, encG, hsucc, encRow_pos, encN]
    | some ev =>
      by_cases hk0 : k = 0
      ·subst hk0
       have e0 := hls0 rfl
       subst e0
       have q_ := aN hlt <| aN hdk <| aN h0 <| aN hg0 <| aN hv2 <| hap0
       have q0 := aN @encD.eq_1 <| aN @encG.eq_1 <| @encRow_nil
       repeat' first | refine St.go ?_ | ((with_reducible refine cn ?_ ?_) <;> intro h <;> (try simp [q_] at h) <;> try omega) | (refine Ru.go ?_; intro K H; simp [go_sem, q_, q0]; (try simp (disch := omega) only [wx, z_i]); (first | apply H | ((try refine .inl ?_); refine ⟨_, by (try intro hc); (repeat' first | exact j45 | exact hc | refine And.intro ?_ ?_ | simp [go_sem, q_, q0]); first | done | omega, ?_⟩; first | apply H | (refine ⟨by simp [go_sem, q_, q0], ?_⟩; first | apply H | refine ⟨by simp [go_sem, q_, q0], H _ _ ?_⟩)) | refine ⟨.one (.one (.bool false)), by simp [go_sem, q_, q0], H _ _ ?_⟩ | refine ⟨by first | omega | (simp [z_f, z_g, q_, q0]; first | done | omega), ?_⟩ | refine ⟨H _ ?_, fun h => ?_⟩ | refine ⟨?_, ?_⟩); all_goals ((try apply H); clear H K))
       all_goals try clear q0
       all_goals try clear q_
       refine z_j (n - 1) _ (by omega) ⟨0 + 1, by omega, rfl⟩ ?_
       simp [go_sem, encG, hsucc, encRow_pos, encN]
      ·rw [hls1 (by omega)]
       have q_ := aN hlt <| aN hdk <| aN h0 <| aN hg0 <| aN hv2 <| hap1
       repeat' first | refine St.go ?_ | ((with_reducible refine cn ?_ ?_) <;> intro h <;> (try simp [q_] at h) <;> try omega) | (refine Ru.go ?_; intro K H; simp [go_sem, encD, encG, q_]; (try simp (disch := omega) only [wx, z_i]); (first | apply H | ((try refine .inl ?_); refine ⟨_, by (try intro hc); (repeat' first | exact j45 | exact hc | refine And.intro ?_ ?_ | simp [go_sem, encD, encG, q_]); first | done | omega, ?_⟩; first | apply H | (refine ⟨by simp [go_sem, encD, encG, q_], ?_⟩; first | apply H | refine ⟨by simp [go_sem, encD, encG, q_], H _ _ ?_⟩)) | refine ⟨.one (.one (.bool false)), by simp [go_sem, encD, encG, q_], H _ _ ?_⟩ | refine ⟨by first | omega | (simp [z_f, z_g, encD, encG, q_]; first | done | omega), ?_⟩ | refine ⟨H _ ?_, fun h => ?_⟩ | refine ⟨?_, ?_⟩); all_goals ((try apply H); clear H K))
       all_goals try clear q_
       refine z_j (n - 1) _ (by omega) ⟨k + 1, by omega, rfl⟩ ?_
       simp [go_sem, encG, hsucc, encRow_pos, encN]
  ·have hkl : a.decls.take k = a.decls := List.take_of_length_le (by omega)
   rw [hkl]
   repeat' first | refine St.go ?_ | ((with_reducible refine cn ?_ ?_) <;> intro h <;> (try simp [hlt] at h) <;> try omega) | (refine Ru.go ?_; intro K H; simp [go_sem, hlt]; (try simp (disch := omega) only [wx, z_i]); (first | apply H | refine ⟨by first | omega | (simp [z_f, z_g, hlt]; first | done | omega), ?_⟩ | refine ⟨H _ ?_, fun h => ?_⟩ | refine ⟨?_, ?_⟩); all_goals ((try apply H); clear H K))
   refine z_m ?_
   simp [go_sem, encG]
 have hnum : numT (tab0 a b) := ⟨(valid_num va).1, (valid_num vb).1⟩
 obtain ⟨na1, na2, na3, na4, na5, na6, na7⟩ := numbered_facts hnum.1
 obtain ⟨nb1, nb2, nb3, nb4, nb5, nb6, nb7⟩ := numbered_facts hnum.2
 have hlabel := edge_label hnum.1
 have hsz : sizeP (tab0 a b) <= 40200 := by
  have h1 : (tab0 a b).old.states.toNat <= 200 := by omega
  have h2 : (tab0 a b).new.states.toNat + 1 <= 201 := by omega
  exact Nat.mul_le_mul h1 h2
 have k53 : ∀ (ps : List Pr) (g : List Bool) (s : Int) (x : Edg), x ∈ a.edges -> Impl Tryz.prog 53 [.ag (encG a ++ (encG b ++ [encRowF (a.decls.map (labAt b)), .sl (ps.map encEq), encGdF g])), .one (.int .i64 s), .ag (encEd x)] (.one (.one (.int .i64 (folB (tab0 a b) s x)))) := fun ps g s x hx =>
  Impl.agFirst (f53 (fillT (tab0 a b) ps g) s x (by have := sb.edges; show b.edges.length <= _; omega) (hlabel x hx).1 (by show _ < (((a.decls.map (labAt b)).length : Nat) : Int); rw [List.length_map]; exact (hlabel x hx).2)) (by
   have h : towardD [encRowF (a.decls.map (labAt b)), .sl (ps.map encEq), encGdF g] [.sl ((a.decls.map (labAt b)).map encN), .sl (ps.map encEq), .sl (g.map encBl)] := ⟨toward_encRowF _, DV.toward_self _, toward_encGdF _, trivial⟩
   exact towardD_pre (towardD_pre h _) _)
 simp only [encG, encEd, List.cons_append, List.nil_append] at k53
 have k54 : ∀ (ps : List Pr) (x y : Int), ps.length <= 100000 -> Impl Tryz.prog 54 [.one (.sl (ps.map encEq)), .ag [.int .i64 x, .int .i64 y]] (.one (.one (.int .i64 (firstB (isP (x, y)) ps)))) := fun ps x y h => f54 ps (x, y) (by omega)
 refine z_l [(6, .sv (.one (.bx (encG a ++ (encG b ++ [encRow (a.decls.map (labAt b)), .ow 2 ([(a.start, b.start)].map encEq), .nil]))))), (5, .sv (.one (.int .i64 0))), (4, .sv (.one (.bx zT))), (3, .sv (.one (.bx (encG b)))), (2, .sv (.one (.bx (encG a))))] ?_ ?_
 ·skip
  repeat' first | refine St.go ?_ | ((with_reducible refine cn ?_ ?_) <;> intro h <;> (try simp at h) <;> try omega) | (refine Ru.go ?_; intro K H; simp [go_sem, encG, encEq]; (try simp (disch := omega) only [wx, z_i]); (first | apply H | refine ⟨by first | omega | (simp [z_f, z_g, encG, encEq]; first | done | omega), ?_⟩ | refine ⟨H _ ?_, fun h => ?_⟩ | refine ⟨?_, ?_⟩); all_goals ((try apply H); clear H K))
  refine z_m ?_
  first | (simp [go_sem, encG, encEq]; done) | (simp [go_sem, encG, encEq]; exact of_eq_true (le_self _))
 obtain ⟨R, hRR⟩ : ∃ R, cmpPairs (tab0 a b) = R := ⟨_, rfl⟩
 refine z_l [(6, .sv (.one (.bx (encG a ++ (encG b ++ [encRow (a.decls.map (labAt b)), .ow 2 (R.map encEq), encGd (List.replicate R.length true)]))))), (5, .sv (.one (.int .i64 0))), (4, .sv (.one (.bx zT))), (3, .sv (.one (.bx (encG b)))), (2, .sv (.one (.bx (encG a))))] ?_ ?_
 ·skip
  repeat' first | refine St.go ?_ | ((with_reducible refine cn ?_ ?_) <;> intro h <;> (try simp at h) <;> try omega) | (refine Ru.go ?_; intro K H; simp [go_sem, encG]; (try simp (disch := omega) only [wx, z_i]); (first | apply H | refine ⟨by first | omega | (simp [z_f, z_g, encG]; first | done | omega), ?_⟩ | refine ⟨H _ ?_, fun h => ?_⟩ | refine ⟨?_, ?_⟩); all_goals ((try apply H); clear H K))
  refine z_k (fun n e => ∃ (i : Nat) (ps : List Pr), bfs (succP (tab0 a b)) n i ps = R /\ i + n = sizeP (tab0 a b) /\ (i <= ps.length /\ ps.Nodup /\ (∀ p ∈ ps, inBox (tab0 a b).old.states.toNat (tab0 a b).new.states.toNat p) /\ closedTo (succP (tab0 a b)) i ps) /\ e = [(9, .sv (.one (.int .i64 i))), (6, .sv (.one (.bx (encG a ++ (encG b ++ [encRow (a.decls.map (labAt b)), .ow 2 (ps.map encEq), encGd (List.replicate i true)]))))), (5, .sv (.one (.int .i64 0))), (4, .sv (.one (.bx zT))), (3, .sv (.one (.bx (encG b)))), (2, .sv (.one (.bx (encG a))))]) (sizeP (tab0 a b)) _ ⟨0, [(a.start, b.start)], hRR, by simp, ⟨by simp, by simp, ?_, ?_⟩, rfl⟩ (by simp [go_sem, encG, encGd_nil]) ?_
  ·intro p hp
   rw [List.mem_singleton.1 hp]
   exact start_box hnum
  ·intro p hp
   simp at hp
  rintro n e ⟨i, ps, hR, hin, ⟨hil, hnd, hbx, hcl⟩, rfl⟩
  have hpl := box_len hnd hbx
  change ps.length <= sizeP (tab0 a b) at hpl
  by_cases hlt : i < ps.length
  ·obtain ⟨⟨p1, p2⟩, hp⟩ : ∃ p, ps[i] = p := ⟨_, rfl⟩
   have hpq : ps[i]? = some (p1, p2) := by rw [List.getElem?_eq_getElem hlt, hp]
   obtain ⟨m, rfl⟩ : ∃ m, n = m + 1 := ⟨n - 1, by omega⟩
   simp only [bfs, hpq] at hR
   obtain ⟨gs, hgs⟩ : ∃ gs, List.replicate i true = gs := ⟨_, rfl⟩
   have hgsl : gs.length = i := by rw [<- hgs]; simp
   have hgsucc : List.replicate (i + 1) true = gs ++ [true] := by rw [<- hgs, List.replicate_succ']
   rw [hgs]
   refine z_l [(9, .sv (.one (.int .i64 i))), (6, .sv (.one (.bx (encG a ++ (encG b ++ [encRow (a.decls.map (labAt b)), .ow 2 (ps.map encEq), encGd gs]))))), (5, .sv (.one (.int .i64 0))), (4, .sv (.one (.bx zT))), (3, .sv (.one (.bx (encG b)))), (2, .sv (.one (.bx (encG a))))] ?_ ?_
   ·skip
    repeat' first | refine St.go ?_ | ((with_reducible refine cn ?_ ?_) <;> intro h <;> (try simp [hlt] at h) <;> try omega) | (refine Ru.go ?_; intro K H; simp [go_sem, hlt, encG]; (try simp (disch := omega) only [wx, z_i]); (first | apply H | refine ⟨by first | omega | (simp [z_f, z_g, hlt, encG]; first | done | omega), ?_⟩ | refine ⟨H _ ?_, fun h => ?_⟩ | refine ⟨?_, ?_⟩); all_goals ((try apply H); clear H K))
    refine z_m ?_
    first | (simp [go_sem, encG]; done) | (simp [go_sem, encG]; exact of_eq_true (le_self _))
   obtain ⟨qs, hqs⟩ : ∃ qs, succP (tab0 a b) (p1, p2) = qs := ⟨_, rfl⟩
   rw [hqs] at hR
   have hcl2 := closed_step hcl hpq
   rw [hqs] at hcl2
   refine z_l [(9, .sv (.one (.int .i64 i))), (6, .sv (.one (.bx (encG a ++ (encG b ++ [encRow (a.decls.map (labAt b)), .ow 2 ((addAll ps qs).map encEq), encGd (gs ++ [true])]))))), (5, .sv (.one (.int .i64 0))), (4, .sv (.one (.bx zT))), (3, .sv (.one (.bx (encG b)))), (2, .sv (.one (.bx (encG a))))] ?_ ?_
   ·refine z_C ?_
    obtain ⟨ks, hks⟩ : ∃ ks, sortedE a.edges p1 = ks := ⟨_, rfl⟩
    have j28 := k52 p1
    rw [hks] at j28
    have hkq : qs = ks.map (stepK (tab0 a b) (p1, p2)) := by rw [<- hqs, <- hks]; rfl
    have hqn : qs.length = ks.length := by rw [hkq]; simp
    have hkl : ks.length <= 1000 := by
     rw [<- hks]
     unfold sortedE
     rw [isort_len]
     have h1 := ofState_len a.edges p1 a.edges.length
     have h2 := sa.edges
     omega
    refine z_l [(10, .sv (.one (.ow 1 (ks.map encN)))), (9, .sv (.one (.int .i64 i))), (6, .sv (.one (.bx (encG a ++ (encG b ++ [encRow (a.decls.map (labAt b)), .ow 2 (ps.map encEq), encGd gs]))))), (5, .sv (.one (.int .i64 0))), (4, .sv (.one (.bx zT))), (3, .sv (.one (.bx (encG b)))), (2, .sv (.one (.bx (encG a))))] ?_ ?_
    ·skip
     repeat' first | refine St.go ?_ | ((with_reducible refine cn ?_ ?_) <;> intro h <;> (try simp [hlt, hp] at h) <;> try omega) | (refine Ru.go ?_; intro K H; simp [go_sem, hlt, hp, encG, encEq]; (try simp (disch := omega) only [wx, z_i]); (first | apply H | ((try refine .inl ?_); refine ⟨_, by (try intro hc); (repeat' first | exact j28 | exact hc | refine And.intro ?_ ?_ | simp [go_sem, hlt, hp, encG, encEq]); first | done | omega, ?_⟩; first | apply H | (refine ⟨by simp [go_sem, hlt, hp, encG, encEq], ?_⟩; first | apply H | refine ⟨by simp [go_sem, hlt, hp, encG, encEq], H _ _ ?_⟩)) | refine ⟨.one (.one (.bool false)), by simp [go_sem, hlt, hp, encG, encEq], H _ _ ?_⟩ | refine ⟨by first | omega | (simp [z_f, z_g, hlt, hp, encG, encEq]; first | done | omega), ?_⟩ | refine ⟨H _ ?_, fun h => ?_⟩ | refine ⟨?_, ?_⟩); all_goals ((try apply H); clear H K))
     refine z_m ?_
     first | (simp [go_sem, encG]; done) | (simp [go_sem, encG]; exact of_eq_true (le_self _))
    refine z_l [(9, .sv (.one (.int .i64 i))), (6, .sv (.one (.bx (encG a ++ (encG b ++ [encRow (a.decls.map (labAt b)), .ow 2 ((addAll ps qs).map encEq), encGd gs]))))), (5, .sv (.one (.int .i64 0))), (4, .sv (.one (.bx zT))), (3, .sv (.one (.bx (encG b)))), (2, .sv (.one (.bx (encG a))))] ?_ ?_
    ·skip
     repeat' first | refine St.go ?_ | ((with_reducible refine cn ?_ ?_) <;> intro h <;> (try simp at h) <;> try omega) | (refine Ru.go ?_; intro K H; simp [go_sem, encG]; (try simp (disch := omega) only [wx, z_i]); (first | apply H | refine ⟨by first | omega | (simp [z_f, z_g, encG]; first | done | omega), ?_⟩ | refine ⟨H _ ?_, fun h => ?_⟩ | refine ⟨?_, ?_⟩); all_goals ((try apply H); clear H K))
     refine z_k (fun q e => ∃ (j : Nat) (ps' : List Pr), j + q = ks.length /\ ps' = addAll ps (qs.take j) /\ e = [(11, .sv (.one (.int .i64 j))), (10, .sv (.one (.ow 1 (ks.map encN)))), (9, .sv (.one (.int .i64 i))), (6, .sv (.one (.bx (encG a ++ (encG b ++ [encRow (a.decls.map (labAt b)), .ow 2 (ps'.map encEq), encGd gs]))))), (5, .sv (.one (.int .i64 0))), (4, .sv (.one (.bx zT))), (3, .sv (.one (.bx (encG b)))), (2, .sv (.one (.bx (encG a))))]) ks.length _ ⟨0, ps, by simp, rfl, rfl⟩ (by simp [go_sem, encG]) ?_
     rintro q e ⟨j, ps', hj, hps', rfl⟩
     obtain ⟨tl, htl⟩ := addAll_pre ps (qs.take j)
     rw [<- hps'] at htl
     have hnd' : ps'.Nodup := by rw [hps']; exact nodup_addAll hnd
     have hbx' : ∀ p ∈ ps', inBox (tab0 a b).old.states.toNat (tab0 a b).new.states.toNat p := by
      intro p hp2
      rw [hps'] at hp2
      rcases mem_addAll.1 hp2 with h | h
      ·exact hbx p h
      ·exact succ_box hnum _ (hbx _ (List.mem_of_getElem? hpq)) p (by rw [hqs]; exact List.mem_of_mem_take h)
     have hpl' := box_len hnd' hbx'
     change ps'.length <= sizeP (tab0 a b) at hpl'
     have hilt : i < ps'.length := by rw [htl, List.length_append]; omega
     have hp' : ps'[i] = (p1, p2) := by
      have h1 : ps'[i]? = some (p1, p2) := by rw [htl, List.getElem?_append_left hlt]; exact hpq
      rw [List.getElem?_eq_getElem hilt] at h1
      exact Option.some.inj h1
     by_cases hjl : j < ks.length
     ·obtain ⟨k, hkj⟩ : ∃ k, ks[j] = k := ⟨_, rfl⟩
      have hkm : k ∈ sortedE a.edges p1 := by rw [hks, <- hkj]; exact List.getElem_mem hjl
      obtain ⟨x, hx, hk0, hxf⟩ := mem_sortedE.1 hkm
      obtain ⟨hk1, hkx⟩ := List.getElem?_eq_some_iff.1 hx
      obtain ⟨q2, hq2⟩ : ∃ q2, folB (tab0 a b) p2 x = q2 := ⟨_, rfl⟩
      have j47 := k53 ps' gs p2 x (List.mem_of_getElem? hx)
      rw [hq2] at j47
      have hjq : j < qs.length := by omega
      have hqj : qs[j] = (x.to, q2) := by
       have h1 : qs[j]? = some (x.to, q2) := by
        rw [hkq, List.getElem?_map, List.getElem?_eq_getElem hjl, hkj]
        show some (stepK (tab0 a b) (p1, p2) k) = _
        have hx2 : (tab0 a b).old.edges[k.toNat]? = some x := hx
        simp only [stepK, hx2, stepX, hq2]
       rw [List.getElem?_eq_getElem hjq] at h1
       exact Option.some.inj h1
      have htk : qs.take (j + 1) = qs.take j ++ [(x.to, q2)] := by rw [List.take_succ_eq_append_getElem hjq, hqj]
      obtain ⟨ps2, hps2⟩ : ∃ ps2, addP ps' (x.to, q2) = ps2 := ⟨_, rfl⟩
      have hnext : ps2 = addAll ps (qs.take (j + 1)) := by rw [htk, addAll_append, <- hps', <- hps2]; rfl
      have j54 := k54 ps' x.to q2 (by omega)
      refine z_l [(11, .sv (.one (.int .i64 j))), (10, .sv (.one (.ow 1 (ks.map encN)))), (9, .sv (.one (.int .i64 i))), (6, .sv (.one (.bx (encG a ++ (encG b ++ [encRow (a.decls.map (labAt b)), .ow 2 (ps'.map encEq), encGd gs]))))), (5, .sv (.one (.int .i64 0))), (4, .sv (.one (.bx zT))), (3, .sv (.one (.bx (encG b)))), (2, .sv (.one (.bx (encG a))))] ?_ ?_
      ·skip
       repeat' first | refine St.go ?_ | ((with_reducible refine cn ?_ ?_) <;> intro h <;> (try simp [hjl] at h) <;> try omega) | (refine Ru.go ?_; intro K H; simp [go_sem, hjl, encG]; (try simp (disch := omega) only [wx, z_i]); (first | apply H | refine ⟨by first | omega | (simp [z_f, z_g, hjl, encG]; first | done | omega), ?_⟩ | refine ⟨H _ ?_, fun h => ?_⟩ | refine ⟨?_, ?_⟩); all_goals ((try apply H); clear H K))
       refine z_m ?_
       first | (simp [go_sem, encG, hjl]; done) | (simp [go_sem, encG, hjl]; exact of_eq_true (le_self _))
      refine z_l [(11, .sv (.one (.int .i64 j))), (10, .sv (.one (.ow 1 (ks.map encN)))), (9, .sv (.one (.int .i64 i))), (6, .sv (.one (.bx (encG a ++ (encG b ++ [encRow (a.decls.map (labAt b)), .ow 2 (ps2.map encEq), encGd gs]))))), (5, .sv (.one (.int .i64 0))), (4, .sv (.one (.bx zT))), (3, .sv (.one (.bx (encG b)))), (2, .sv (.one (.bx (encG a))))] ?_ ?_
      ·refine z_C ?_
       refine z_l [(12, .sv (.one (.bx (encEd x)))), (11, .sv (.one (.int .i64 j))), (10, .sv (.one (.ow 1 (ks.map encN)))), (9, .sv (.one (.int .i64 i))), (6, .sv (.one (.bx (encG a ++ (encG b ++ [encRow (a.decls.map (labAt b)), .ow 2 (ps'.map encEq), encGd gs]))))), (5, .sv (.one (.int .i64 0))), (4, .sv (.one (.bx zT))), (3, .sv (.one (.bx (encG b)))), (2, .sv (.one (.bx (encG a))))] ?_ ?_
       ·skip
        have q_ := aN hjl <| aN hkj <| aN hk0 <| aN hk1 <| hkx
        repeat' first | refine St.go ?_ | ((with_reducible refine cn ?_ ?_) <;> intro h <;> (try simp [q_] at h) <;> try omega) | (refine Ru.go ?_; intro K H; simp [go_sem, encN, encEd, encG, q_]; (try simp (disch := omega) only [wx, z_i]); (first | apply H | refine ⟨by first | omega | (simp [z_f, z_g, encN, encEd, encG, q_]; first | done | omega), ?_⟩ | refine ⟨H _ ?_, fun h => ?_⟩ | refine ⟨?_, ?_⟩); all_goals ((try apply H); clear H K))
        all_goals try clear q_
        refine z_m ?_
        first | (simp [go_sem, encG, encEd]; done) | (simp [go_sem, encG, encEd]; exact of_eq_true (le_self _))
       refine z_l [(13, .sv (.one (.bx [.int .i64 x.to, .int .i64 q2]))), (11, .sv (.one (.int .i64 j))), (10, .sv (.one (.ow 1 (ks.map encN)))), (9, .sv (.one (.int .i64 i))), (6, .sv (.one (.bx (encG a ++ (encG b ++ [encRow (a.decls.map (labAt b)), .ow 2 (ps'.map encEq), encGd gs]))))), (5, .sv (.one (.int .i64 0))), (4, .sv (.one (.bx zT))), (3, .sv (.one (.bx (encG b)))), (2, .sv (.one (.bx (encG a))))] ?_ ?_
       ·skip
        have q0 := aN @encEd.eq_1 <| aN @encEq.eq_1 <| aN @encG.eq_1 <| aN @hasOw_cons <| aN @Bool.or_true <| aN @Bool.true_or <| aN @frz_encRow <| aN @frz_encGd <| aN @frzLL_map <| @frz_encEq
        repeat' first | refine St.go ?_ | ((with_reducible refine cn ?_ ?_) <;> intro h <;> (try simp [hilt, hp'] at h) <;> try omega) | (refine Ru.go ?_; intro K H; simp [go_sem, hilt, hp', isOw, q0]; (try simp (disch := omega) only [wx, z_i]); (first | apply H | ((try refine .inl ?_); refine ⟨_, by (try intro hc); (repeat' first | exact j47 | exact hc | refine And.intro ?_ ?_ | simp [go_sem, hilt, hp', isOw, q0]); first | done | omega, ?_⟩; first | apply H | (refine ⟨by simp [go_sem, hilt, hp', isOw, q0], ?_⟩; first | apply H | refine ⟨by simp [go_sem, hilt, hp', isOw, q0], H _ _ ?_⟩)) | refine ⟨.one (.one (.bool false)), by simp [go_sem, hilt, hp', isOw, q0], H _ _ ?_⟩ | refine ⟨by first | omega | (simp [z_f, z_g, hilt, hp', isOw, q0]; first | done | omega), ?_⟩ | refine ⟨H _ ?_, fun h => ?_⟩ | refine ⟨?_, ?_⟩); all_goals ((try apply H); clear H K))
        all_goals try clear q0
        refine z_m ?_
        first | (simp [go_sem, encG]; done) | (simp [go_sem, encG]; exact of_eq_true (le_self _))
       by_cases hq : (x.to, q2) ∈ ps'
       ·have hpl0 : 0 <= firstB (isP (x.to, q2)) ps' := by rw [firstB_idx hq]; exact (idxP_get hq).1
        have e2 : ps2 = ps' := by rw [<- hps2]; unfold addP; rw [if_pos hq]
        obtain ⟨pl, hpl2⟩ : ∃ pl, firstB (isP (x.to, q2)) ps' = pl := ⟨_, rfl⟩
        rw [hpl2] at hpl0 j54
        have hpl3 : ¬ pl < 0 := by omega
        rw [e2]
        repeat' first | refine St.go ?_ | ((with_reducible refine cn ?_ ?_) <;> intro h <;> (try simp [hpl3] at h) <;> try omega) | (refine Ru.go ?_; intro K H; simp [go_sem, hpl3, encG]; (try simp (disch := omega) only [wx, z_i]); (first | apply H | ((try refine .inl ?_); refine ⟨_, by (try intro hc); (repeat' first | exact j54 | exact hc | refine And.intro ?_ ?_ | simp [go_sem, hpl3, encG]); first | done | omega, ?_⟩; first | apply H | (refine ⟨by simp [go_sem, hpl3, encG], ?_⟩; first | apply H | refine ⟨by simp [go_sem, hpl3, encG], H _ _ ?_⟩)) | refine ⟨.one (.one (.bool false)), by simp [go_sem, hpl3, encG], H _ _ ?_⟩ | refine ⟨by first | omega | (simp [z_f, z_g, hpl3, encG]; first | done | omega), ?_⟩ | refine ⟨H _ ?_, fun h => ?_⟩ | refine ⟨?_, ?_⟩); all_goals ((try apply H); clear H K))
        refine z_m ?_
        simp [go_sem, encG]
       ·have hpl0 : firstB (isP (x.to, q2)) ps' = -1 := firstB_none (by
         rw [List.any_eq_false]
         intro y hy hyp
         rw [isP_beq, beq_iff_eq] at hyp
         exact hq (hyp ▸ hy))
        rw [hpl0] at j54
        have e2 : ps2 = ps' ++ [(x.to, q2)] := by rw [<- hps2]; unfold addP; rw [if_neg hq]
        have hap : z_f 2 16 (ps'.map encEq) [[.int .i64 x.to, .int .i64 q2]] := by
         refine ⟨?_, ?_, by omega, ?_, ?_⟩
         ·intro e he; rw [List.mem_singleton.1 he]; rfl
         ·intro e he; rw [List.mem_singleton.1 he]; rfl
         ·simp only [List.length_map, List.length_singleton, maxLen]; omega
         ·simp only [List.length_map, List.length_singleton]; omega
        rw [e2]
        repeat' first | refine St.go ?_ | ((with_reducible refine cn ?_ ?_) <;> intro h <;> (try simp [hap] at h) <;> try omega) | (refine Ru.go ?_; intro K H; simp [go_sem, hap, encG]; (try simp (disch := omega) only [wx, z_i]); (first | apply H | ((try refine .inl ?_); refine ⟨_, by (try intro hc); (repeat' first | exact j54 | exact hc | refine And.intro ?_ ?_ | simp [go_sem, hap, encG]); first | done | omega, ?_⟩; first | apply H | (refine ⟨by simp [go_sem, hap, encG], ?_⟩; first | apply H | refine ⟨by simp [go_sem, hap, encG], H _ _ ?_⟩)) | refine ⟨.one (.one (.bool false)), by simp [go_sem, hap, encG], H _ _ ?_⟩ | refine ⟨by first | omega | (simp [z_f, z_g, hap, encG]; first | done | omega), ?_⟩ | refine ⟨H _ ?_, fun h => ?_⟩ | refine ⟨?_, ?_⟩); all_goals ((try apply H); clear H K))
        refine z_m ?_
        simp [go_sem, encG, encEq]
      repeat' first | refine St.go ?_ | ((with_reducible refine cn ?_ ?_) <;> intro h <;> (try simp at h) <;> try omega) | (refine Ru.go ?_; intro K H; simp [go_sem, encG]; (try simp (disch := omega) only [wx, z_i]); (first | apply H | refine ⟨by first | omega | (simp [z_f, z_g, encG]; first | done | omega), ?_⟩ | refine ⟨H _ ?_, fun h => ?_⟩ | refine ⟨?_, ?_⟩); all_goals ((try apply H); clear H K))
      refine z_j (q - 1) _ (by omega) ⟨j + 1, ps2, by omega, hnext, rfl⟩ ?_
      simp [go_sem, encG]
     ·have hjk : qs.take j = qs := List.take_of_length_le (by omega)
      rw [hjk] at hps'
      repeat' first | refine St.go ?_ | ((with_reducible refine cn ?_ ?_) <;> intro h <;> (try simp [hjl] at h) <;> try omega) | (refine Ru.go ?_; intro K H; simp [go_sem, hjl, encG]; (try simp (disch := omega) only [wx, z_i]); (first | apply H | refine ⟨by first | omega | (simp [z_f, z_g, hjl, encG]; first | done | omega), ?_⟩ | refine ⟨H _ ?_, fun h => ?_⟩ | refine ⟨?_, ?_⟩); all_goals ((try apply H); clear H K))
      refine z_m ?_
      simp [go_sem, encG, <- hps']
    have hapg : ∀ l : List Bool, l.length <= 100000 -> z_f 1 1 (l.map encBl) [[.bool true]] := by
     intro l hl
     refine ⟨?_, ?_, by omega, ?_, ?_⟩
     ·intro e he; rw [List.mem_singleton.1 he]; rfl
     ·intro e he; rw [List.mem_singleton.1 he]; rfl
     ·simp only [List.length_map, List.length_singleton, maxLen]; omega
     ·simp only [List.length_map, List.length_singleton]; omega
    by_cases hi0 : gs = []
    ·have hap0 := hapg [] (by simp)
     simp only [List.map_nil] at hap0
     rw [hi0]
     repeat' first | refine St.go ?_ | ((with_reducible refine cn ?_ ?_) <;> intro h <;> (try simp [hap0] at h) <;> try omega) | (refine Ru.go ?_; intro K H; simp [go_sem, encGd_nil, hap0, encG]; (try simp (disch := omega) only [wx, z_i]); (first | apply H | refine ⟨by first | omega | (simp [z_f, z_g, encGd_nil, hap0, encG]; first | done | omega), ?_⟩ | refine ⟨H _ ?_, fun h => ?_⟩ | refine ⟨?_, ?_⟩); all_goals ((try apply H); clear H K))
     refine z_m ?_
     simp [go_sem, encG, encGd_pos, encBl]
    ·have hap1 := hapg gs (by omega)
     rw [encGd_pos hi0]
     repeat' first | refine St.go ?_ | ((with_reducible refine cn ?_ ?_) <;> intro h <;> (try simp [hap1] at h) <;> try omega) | (refine Ru.go ?_; intro K H; simp [go_sem, hap1, encG]; (try simp (disch := omega) only [wx, z_i]); (first | apply H | refine ⟨by first | omega | (simp [z_f, z_g, hap1, encG]; first | done | omega), ?_⟩ | refine ⟨H _ ?_, fun h => ?_⟩ | refine ⟨?_, ?_⟩); all_goals ((try apply H); clear H K))
     refine z_m ?_
     simp [go_sem, encG, encGd_pos, encBl]
   repeat' first | refine St.go ?_ | ((with_reducible refine cn ?_ ?_) <;> intro h <;> (try simp at h) <;> try omega) | (refine Ru.go ?_; intro K H; simp [go_sem, encG]; (try simp (disch := omega) only [wx, z_i]); (first | apply H | refine ⟨by first | omega | (simp [z_f, z_g, encG]; first | done | omega), ?_⟩ | refine ⟨H _ ?_, fun h => ?_⟩ | refine ⟨?_, ?_⟩); all_goals ((try apply H); clear H K))
   refine z_j m _ (by omega) ⟨i + 1, addAll ps qs, hR, by omega, ⟨?_, nodup_addAll hnd, ?_, hcl2⟩, rfl⟩ ?_
   ·obtain ⟨tl, htl⟩ := addAll_pre ps qs
    rw [htl, List.length_append]; omega
   ·intro p hp2
    rcases mem_addAll.1 hp2 with h | h
    ·exact hbx p h
    ·exact succ_box hnum _ (hbx _ (List.mem_of_getElem? hpq)) p (by rw [hqs]; exact h)
   ·simp [go_sem, encG, hgsucc]
  ·have hRe : ps = R := by
    rw [<- hR]
    cases n with
    | zero => rfl
    | succ n => simp [bfs, List.getElem?_eq_none (show ps.length <= i by omega)]
   have hiR : i = R.length := by rw [<- hRe]; omega
   rw [hRe, hiR]
   repeat' first | refine St.go ?_ | ((with_reducible refine cn ?_ ?_) <;> intro h <;> (try simp [hlt] at h) <;> try omega) | (refine Ru.go ?_; intro K H; simp [go_sem, hlt, encG]; (try simp (disch := omega) only [wx, z_i]); (first | apply H | refine ⟨by first | omega | (simp [z_f, z_g, hlt, encG]; first | done | omega), ?_⟩ | refine ⟨H _ ?_, fun h => ?_⟩ | refine ⟨?_, ?_⟩); all_goals ((try apply H); clear H K))
   refine z_m ?_
   simp [go_sem, encG]
 have hRb : ∀ p ∈ R, inBox (tab0 a b).old.states.toNat (tab0 a b).new.states.toNat p := by
  rw [<- hRR]
  exact pairs_box hnum
 have hRn : R.Nodup := by rw [<- hRR]; exact bfs_nodup _ _ _ (by simp)
 have hRl : R.length <= sizeP (tab0 a b) := box_len hRn hRb
 have hRc : ∀ p ∈ R, ∀ q ∈ succP (tab0 a b) p, q ∈ R := by
  rw [<- hRR]
  exact pairs_closed hnum
 have hR0 : 0 < R.length := by
  have := pairs_zero (tab0 a b)
  rw [hRR] at this
  exact (List.getElem?_eq_some_iff.1 this).1
 obtain ⟨G, hGG⟩ : ∃ G, cmpGood (tab0 a b) R = G := ⟨_, rfl⟩
 have hG2 : iterR (tab0 a b) R (R.length + 1) (List.replicate R.length true) = G := by
  rw [<- hGG]; exact goodR_eq hRc
 have hTab : encTab (cmpTab a b) = encG a ++ (encG b ++ [.sl ((a.decls.map (labAt b)).map encN), .sl (R.map encEq), .sl (G.map encBl)]) := by
  unfold cmpTab
  rw [hRR, hGG]
  rfl
 rw [hTab]
 have hrep0 : encGd (List.replicate R.length true) = .ow 1 ((List.replicate R.length true).map encBl) := encGd_pos (fun e => by
  have := congrArg List.length e
  rw [List.length_replicate, List.length_nil] at this
  omega)
 rw [hrep0]
 have hkeep : (List.replicate R.length true).length = R.length := by simp
 obtain ⟨g0, hg0⟩ : ∃ g0, List.replicate R.length true = g0 := ⟨_, rfl⟩
 have htr0 : trues g0 < R.length + 1 := by
  rw [<- hg0]
  have := trues_le (List.replicate R.length true)
  rw [List.length_replicate] at this
  omega
 rw [hg0] at hG2 hkeep
 rw [hg0]
 have hkR : R.length <= 40200 := by omega
 have k55 : ∀ (g : List Bool) (p : Pr), p ∈ R -> g.length = R.length -> Impl Tryz.prog 55 [.ag (encG a ++ (encG b ++ [encRowF (a.decls.map (labAt b)), .sl (R.map encEq), .sl (g.map encBl)])), .ag (encEq p)] (.one (.one (.bool (holdsB (fillT (tab0 a b) R g) p)))) := fun g p hp hgl =>
  Impl.agFirst (f55 (fillT (tab0 a b) R g) p (by have := sa.edges; show a.edges.length <= _; omega) (by have := sb.edges; show b.edges.length <= _; omega) (by show R.length <= _; omega)
   (fun x hx => ⟨(hlabel x hx).1, by show _ < (((a.decls.map (labAt b)).length : Nat) : Int); rw [List.length_map]; exact (hlabel x hx).2⟩)
   (fun x hx hs _ => by
    have hq := hRc p hp (stepX (tab0 a b) p x) (succ_mem.2 ⟨x, hx, hs, rfl⟩)
    have h1 := idxP_get hq
    have h2 : placeB (fillT (tab0 a b) R g) (x.to, folB (fillT (tab0 a b) R g) p.2 x) = idxP R (stepX (tab0 a b) p x) := firstB_idx hq
    rw [h2]
    refine ⟨h1.1, ?_⟩
    show _ < ((g.length : Nat) : Int)
    omega)) (by
   have h : towardD [encRowF (a.decls.map (labAt b)), .sl (R.map encEq), .sl (g.map encBl)] [.sl ((a.decls.map (labAt b)).map encN), .sl (R.map encEq), .sl (g.map encBl)] := ⟨toward_encRowF _, DV.toward_self _, DV.toward_self _, trivial⟩
   exact towardD_pre (towardD_pre h _) _)
 simp only [encG, encEq, List.cons_append, List.nil_append] at k55
 refine z_l [(6, .sv (.one (.bx (encG a ++ (encG b ++ [encRow (a.decls.map (labAt b)), .ow 2 (R.map encEq), .ow 1 (G.map encBl)]))))), (5, .sv (.one (.int .i64 0))), (4, .sv (.one (.bx zT))), (3, .sv (.one (.bx (encG b)))), (2, .sv (.one (.bx (encG a))))] ?_ ?_
 ·skip
  repeat' first | refine St.go ?_ | ((with_reducible refine cn ?_ ?_) <;> intro h <;> (try simp at h) <;> try omega) | (refine Ru.go ?_; intro K H; simp [go_sem, encG]; (try simp (disch := omega) only [wx, z_i]); (first | apply H | refine ⟨by first | omega | (simp [z_f, z_g, encG]; first | done | omega), ?_⟩ | refine ⟨H _ ?_, fun h => ?_⟩ | refine ⟨?_, ?_⟩); all_goals ((try apply H); clear H K))
  refine z_k (fun n e => ∃ (g : List Bool) (ch : Bool), (ch = true -> iterR (tab0 a b) R n g = G /\ trues g < n) /\ (ch = false -> g = G) /\ g.length = R.length /\ e = [(14, .sv (.one (.bool ch))), (6, .sv (.one (.bx (encG a ++ (encG b ++ [encRow (a.decls.map (labAt b)), .ow 2 (R.map encEq), .ow 1 (g.map encBl)]))))), (5, .sv (.one (.int .i64 0))), (4, .sv (.one (.bx zT))), (3, .sv (.one (.bx (encG b)))), (2, .sv (.one (.bx (encG a))))]) (R.length + 1) _ ⟨g0, true, fun _ => ⟨hG2, htr0⟩, by simp, hkeep, rfl⟩ (by simp [go_sem, encG]) ?_
  rintro n e ⟨g, ch, hch1, hch2, hgl, rfl⟩
  cases ch with
  | false =>
    rw [hch2 rfl]
    repeat' first | refine St.go ?_ | ((with_reducible refine cn ?_ ?_) <;> intro h <;> (try simp at h) <;> try omega) | (refine Ru.go ?_; intro K H; simp [go_sem, encG]; (try simp (disch := omega) only [wx, z_i]); (first | apply H | refine ⟨by first | omega | (simp [z_f, z_g, encG]; first | done | omega), ?_⟩ | refine ⟨H _ ?_, fun h => ?_⟩ | refine ⟨?_, ?_⟩); all_goals ((try apply H); clear H K))
    refine z_m ?_
    simp [go_sem, encG]
  | true =>
    obtain ⟨hit, htr⟩ := hch1 rfl
    obtain ⟨m, rfl⟩ : ∃ m, n = m + 1 := ⟨n - 1, by omega⟩
    repeat' first | refine St.go ?_ | ((with_reducible refine cn ?_ ?_) <;> intro h <;> (try simp at h) <;> try omega) | (refine Ru.go ?_; intro K H; simp [go_sem, encG]; (try simp (disch := omega) only [wx, z_i]); (first | apply H | refine ⟨by first | omega | (simp [z_f, z_g, encG]; first | done | omega), ?_⟩ | refine ⟨H _ ?_, fun h => ?_⟩ | refine ⟨?_, ?_⟩); all_goals ((try apply H); clear H K))
    refine z_k (fun q e => ∃ (i : Nat) (gi : List Bool) (ch : Bool), i + q = R.length /\ gi = (List.range i).foldl (lookR (tab0 a b) R) g /\ (ch = false -> gi = g) /\ (ch = true -> trues gi < trues g) /\ e = [(15, .sv (.one (.int .i64 i))), (14, .sv (.one (.bool ch))), (6, .sv (.one (.bx (encG a ++ (encG b ++ [encRow (a.decls.map (labAt b)), .ow 2 (R.map encEq), .ow 1 (gi.map encBl)]))))), (5, .sv (.one (.int .i64 0))), (4, .sv (.one (.bx zT))), (3, .sv (.one (.bx (encG b)))), (2, .sv (.one (.bx (encG a))))]) R.length _ ⟨0, g, false, by simp, rfl, fun _ => rfl, by simp, rfl⟩ (by simp [go_sem, encG]) ?_
    rintro q e ⟨i, gi, ch, hiq, hgi, hc1, hc2, rfl⟩
    have hgil : gi.length = R.length := by rw [hgi, looks_len]; exact hgl
    by_cases hlt : i < R.length
    ·obtain ⟨⟨p1, p2⟩, hp⟩ : ∃ p, R[i] = p := ⟨_, rfl⟩
     have hpm : (p1, p2) ∈ R := hp ▸ List.getElem_mem hlt
     have hlg : i < gi.length := by omega
     obtain ⟨cu, hcu⟩ : ∃ cu, gi[i] = cu := ⟨_, rfl⟩
     have j55 := k55 gi (p1, p2) hpm hgil
     obtain ⟨hd, hhd⟩ : ∃ hd, holdsB (fillT (tab0 a b) R gi) (p1, p2) = hd := ⟨_, rfl⟩
     rw [hhd] at j55
     have hlook : lookR (tab0 a b) R gi i = if (cu && !hd) = true then gi.set i false else gi := by
      unfold lookR
      rw [List.getElem?_eq_getElem hlg, List.getElem?_eq_getElem hlt, hcu, hp]
      simp only [Option.getD_some, hhd]
     have hnx : lookR (tab0 a b) R gi i = (List.range (i + 1)).foldl (lookR (tab0 a b) R) g := by rw [fold_range, <- hgi]
     cases cu with
     | false =>
       have hs : lookR (tab0 a b) R gi i = gi := by rw [hlook]; rfl
       rw [hs] at hnx
       have q_ := aN hlt <| aN hlg <| aN hp <| hcu
       have q0 := aN @encEq.eq_1 <| aN @encBl.eq_1 <| aN @encG.eq_1 <| aN @hasOw_cons <| aN @Bool.or_true <| aN @Bool.true_or <| aN @frz_encRow <| aN @frzLL_map <| aN @frz_encEq <| @frz_encBl
       repeat' first | refine St.go ?_ | ((with_reducible refine cn ?_ ?_) <;> intro h <;> (try simp [q_] at h) <;> try omega) | (refine Ru.go ?_; intro K H; simp [go_sem, isOw, q_, q0]; (try simp (disch := omega) only [wx, z_i]); (first | apply H | ((try refine .inl ?_); refine ⟨_, by (try intro hc); (repeat' first | exact j55 | exact hc | refine And.intro ?_ ?_ | simp [go_sem, isOw, q_, q0]); first | done | omega, ?_⟩; first | apply H | (refine ⟨by simp [go_sem, isOw, q_, q0], ?_⟩; first | apply H | refine ⟨by simp [go_sem, isOw, q_, q0], H _ _ ?_⟩)) | refine ⟨.one (.one (.bool false)), by simp [go_sem, isOw, q_, q0], H _ _ ?_⟩ | refine ⟨by first | omega | (simp [z_f, z_g, isOw, q_, q0]; first | done | omega), ?_⟩ | refine ⟨H _ ?_, fun h => ?_⟩ | refine ⟨?_, ?_⟩); all_goals ((try apply H); clear H K))
       all_goals try clear q0
       all_goals try clear q_
       refine z_j (q - 1) _ (by omega) ⟨i + 1, gi, ch, by omega, hnx, hc1, hc2, rfl⟩ ?_
       simp [go_sem, encG]
     | true =>
       cases hd with
       | true =>
         have hs : lookR (tab0 a b) R gi i = gi := by rw [hlook]; rfl
         rw [hs] at hnx
         have q_ := aN hlt <| aN hlg <| aN hp <| hcu
         have q0 := aN @encEq.eq_1 <| aN @encBl.eq_1 <| aN @encG.eq_1 <| aN @hasOw_cons <| aN @Bool.or_true <| aN @Bool.true_or <| aN @frz_encRow <| aN @frzLL_map <| aN @frz_encEq <| @frz_encBl
         repeat' first | refine St.go ?_ | ((with_reducible refine cn ?_ ?_) <;> intro h <;> (try simp [q_] at h) <;> try omega) | (refine Ru.go ?_; intro K H; simp [go_sem, isOw, q_, q0]; (try simp (disch := omega) only [wx, z_i]); (first | apply H | ((try refine .inl ?_); refine ⟨_, by (try intro hc); (repeat' first | exact j55 | exact hc | refine And.intro ?_ ?_ | simp [go_sem, isOw, q_, q0]); first | done | omega, ?_⟩; first | apply H | (refine ⟨by simp [go_sem, isOw, q_, q0], ?_⟩; first | apply H | refine ⟨by simp [go_sem, isOw, q_, q0], H _ _ ?_⟩)) | refine ⟨.one (.one (.bool false)), by simp [go_sem, isOw, q_, q0], H _ _ ?_⟩ | refine ⟨by first | omega | (simp [z_f, z_g, isOw, q_, q0]; first | done | omega), ?_⟩ | refine ⟨H _ ?_, fun h => ?_⟩ | refine ⟨?_, ?_⟩); all_goals ((try apply H); clear H K))
         all_goals try clear q0
         all_goals try clear q_
         refine z_j (q - 1) _ (by omega) ⟨i + 1, gi, ch, by omega, hnx, hc1, hc2, rfl⟩ ?_
         simp [go_sem, encG]
       | false =>
         have hs : lookR (tab0 a b) R gi i = gi.set i false := by rw [hlook]; rfl
         rw [hs] at hnx
         have htr2 : trues (gi.set i false) + 1 = trues gi := trues_set (by rw [List.getElem?_eq_getElem hlg, hcu])
         have hle : trues gi <= trues g := by
          cases hch : ch with
          | false => rw [hc1 hch]; exact Nat.le_refl _
          | true => exact Nat.le_of_lt (hc2 hch)
         have q_ := aN hlt <| aN hlg <| aN hp <| hcu
         have q0 := aN @encEq.eq_1 <| aN @encBl.eq_1 <| aN @encG.eq_1 <| aN @hasOw_cons <| aN @Bool.or_true <| aN @Bool.true_or <| aN @frz_encRow <| aN @frzLL_map <| aN @frz_encEq <| @frz_encBl
         repeat' first | refine St.go ?_ | ((with_reducible refine cn ?_ ?_) <;> intro h <;> (try simp [q_] at h) <;> try omega) | (refine Ru.go ?_; intro K H; simp [go_sem, isOw, q_, q0]; (try simp (disch := omega) only [wx, z_i]); (first | apply H | ((try refine .inl ?_); refine ⟨_, by (try intro hc); (repeat' first | exact j55 | exact hc | refine And.intro ?_ ?_ | simp [go_sem, isOw, q_, q0]); first | done | omega, ?_⟩; first | apply H | (refine ⟨by simp [go_sem, isOw, q_, q0], ?_⟩; first | apply H | refine ⟨by simp [go_sem, isOw, q_, q0], H _ _ ?_⟩)) | refine ⟨.one (.one (.bool false)), by simp [go_sem, isOw, q_, q0], H _ _ ?_⟩ | refine ⟨by first | omega | (simp [z_f, z_g, isOw, q_, q0]; first | done | omega), ?_⟩ | refine ⟨H _ ?_, fun h => ?_⟩ | refine ⟨?_, ?_⟩); all_goals ((try apply H); clear H K))
         all_goals try clear q0
         all_goals try clear q_
         refine z_j (q - 1) _ (by omega) ⟨i + 1, gi.set i false, true, by omega, hnx, by simp, fun _ => by omega, rfl⟩ ?_
         simp [go_sem, encG, encBl, List.map_set]
    ·have hround : gi = roundR (tab0 a b) R g := by
      have : i = R.length := by omega
      rw [hgi, this]; rfl
     repeat' first | refine St.go ?_ | ((with_reducible refine cn ?_ ?_) <;> intro h <;> (try simp [hlt] at h) <;> try omega) | (refine Ru.go ?_; intro K H; simp [go_sem, hlt, encG]; (try simp (disch := omega) only [wx, z_i]); (first | apply H | refine ⟨by first | omega | (simp [z_f, z_g, hlt, encG]; first | done | omega), ?_⟩ | refine ⟨H _ ?_, fun h => ?_⟩ | refine ⟨?_, ?_⟩); all_goals ((try apply H); clear H K))
     refine z_j m _ (by omega) ⟨gi, ch, ?_, ?_, hgil, rfl⟩ ?_
     ·intro h
      have h1 := hc2 h
      have hne : roundR (tab0 a b) R g ≠ g := by
       intro e
       rw [hround, e] at h1
       omega
      simp only [iterR, hne, if_false] at hit
      rw [<- hround] at hit
      exact ⟨hit, by omega⟩
     ·intro h
      have h1 := hc1 h
      have he : roundR (tab0 a b) R g = g := by rw [<- hround]; exact h1
      simp only [iterR, he, if_true] at hit
      rw [h1, hit]
     ·simp [go_sem, encG]
 have q0 := aN @hasOw_cons <| aN @Bool.or_true <| aN @Bool.true_or <| aN @frz_encRow <| aN @frzLL_map <| aN @frz_encEq <| @frz_encBl
 repeat' first | refine St.go ?_ | ((with_reducible refine cn ?_ ?_) <;> intro h <;> (try simp at h) <;> try omega) | (refine Ru.go ?_; intro K H; simp [go_sem, encG, zT, isOw, q0]; (try simp (disch := omega) only [wx, z_i]); (first | apply H | refine ⟨by first | omega | (simp [z_f, z_g, encG, zT, isOw, q0]; first | done | omega), ?_⟩ | refine ⟨H _ ?_, fun h => ?_⟩ | refine ⟨?_, ?_⟩); all_goals ((try apply H); clear H K))
 all_goals try clear q0
 simp [go_sem, encG, frz_encRow, frzLL_map, frz_encEq, frz_encBl, frz_encRowF]
 have ht := toward_encRowF (a.decls.map (labAt b))
 rw [List.map_map] at ht
 exact ht
end Go.Av
