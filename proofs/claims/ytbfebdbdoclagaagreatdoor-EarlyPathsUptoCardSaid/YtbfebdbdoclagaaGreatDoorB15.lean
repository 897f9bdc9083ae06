/- The laws EarlyRight, EarlyLeast. -/
import Derived.Test.YtbfebdbdoclagaaGreatDoorAvR
import Derived.Test.YtbfebdbdoclagaaGreatDoorB14
set_option linter.unusedVariables false
set_option linter.unusedSimpArgs false
set_option maxHeartbeats 64000000
set_option maxRecDepth 8000
namespace Go.Av
open Go Go.RowKit Go.Proofs
set_option maxHeartbeats 64000000
theorem pathR_F {g : Glob} {k : Nat} {e0 : Edg} (hv : valid29 g = true) (hk : k < g.edges.length) (he0 : g.edges[k] = e0) (m : Msg) : pathR g k m = (pathF g e0 m, if (pathF g e0 m).isSome then 0 else 8) := by
 have hsr : srchR g k = (some (searchV g e0), 0) := by
  unfold srchR
  rw [hv, if_pos rfl, if_pos (by omega), Int.toNat_natCast, List.getElem?_eq_getElem hk, he0]
 unfold pathR pathF
 rw [hsr]
 dsimp only
 cases (searchV g e0).find? (fun f => msgF f == m) <;> rfl
theorem tmod_edge {g : Glob} {e : Int} (he : 0 <= e /\ e < 256) (hne : 0 < g.edges.length) : ∃ kk : Nat, e.tmod (g.edges.length : Int) = kk /\ kk < g.edges.length := by
 have h1 := Int.tmod_nonneg (g.edges.length : Int) he.1
 have h2 := Int.tmod_lt_of_pos e (show (0 : Int) < g.edges.length by omega)
 exact ⟨(e.tmod (g.edges.length : Int)).toNat, by omega, by omega⟩
theorem srch_at {g : Glob} {k : Nat} {e0 : Edg} (hv : valid29 g = true) (hk : k < g.edges.length) (he0 : g.edges[k] = e0) : srchR g k = (some (searchV g e0), 0) := by
 unfold srchR
 rw [hv, if_pos rfl, if_pos (by omega), Int.toNat_natCast, List.getElem?_eq_getElem hk, he0]
theorem early_at {g : Glob} {k : Nat} {e0 : Edg} (hv : valid29 g = true) (hk : k < g.edges.length) (he0 : g.edges[k] = e0) : earlyL g k = earlyV g e0 := by
 unfold earlyL earlyV
 rw [srch_at hv hk he0]
 rfl
def eqM (m x : Msg) : Bool := x.peer == m.peer && x.label == m.label
theorem eqM_iff {m x : Msg} : eqM m x = true ↔ x = m := by
 unfold eqM
 simp only [Bool.and_eq_true, beq_iff_eq]
 constructor
 ·rintro ⟨h1, h2⟩
  cases x
  cases m
  simp_all
 ·rintro rfl
  exact ⟨rfl, rfl⟩
theorem any_eqM {L : List Msg} {m : Msg} : L.any (eqM m) = true ↔ m ∈ L := by
 rw [List.any_eq_true]
 constructor
 ·rintro ⟨x, hx, h⟩
  exact eqM_iff.1 h ▸ hx
 ·intro h
  exact ⟨m, h, eqM_iff.2 rfl⟩
theorem f7 (g : Glob) (e : Int) (m : Msg) (he : 0 <= e /\ e < 256) (hs : fewE g = true -> Small g) : Impl Tryz.prog 7 [.ag (encG g), .one (.int .u8 e), .ag (encMs m)] (.one (.one (.bool true))) := by
 have k9 := f9
 have k13 := f13 g hs
 simp only [encG] at k13
 refine impl_v ?_
 refine z_l [(6, .sv (.one (.bool false))), (5, .sv (.one (.bx (encMs m)))), (3, .sv (.one (.bx (encG g)))), (1, .sv (.one (.int .u8 e)))] ?_ ?_
 ·refine wX (aN encG.eq_1 encMs.eq_1) ?_
  refine z_m ?_
  simp [go_sem, encG, encMs]
 refine z_l [(6, .sv (.one (.bool false))), (5, .sv (.one (.bx (encMs m)))), (3, .sv (.one (.bx (encG g)))), (1, .sv (.one (.int .u8 e)))] ?_ ?_
 ·refine wC k9 ?_
  refine z_m ?_
  simp [go_sem]
 cases hsm : smallE g with
 | false =>
   rw [hsm] at k13
   refine wV encG.eq_1 k13 ?_
   simp [go_sem]
 | true =>
 rw [hsm] at k13
 unfold smallE at hsm
 simp only [Bool.and_eq_true, decide_eq_true_eq] at hsm
 obtain ⟨hfew, hv, hne⟩ := hsm
 have hsg := hs hfew
 have hel := hsg.edges
 have hB := edB_of hv
 have hor := (valid_parts hv).2.2
 obtain ⟨kk, hkk, hkl⟩ := tmod_edge he hne
 obtain ⟨e0, he0⟩ : ∃ x, g.edges[kk] = x := ⟨_, rfl⟩
 have he0m : e0 ∈ g.edges := he0 ▸ List.getElem_mem hkl
 have hwr : IntKind.i64.wrap e = e := z_h (by omega) (by omega)
 have hnz : ¬ (g.edges.length : Int) = 0 := by omega
 have hge : ¬ g.edges = [] := fun h => by rw [h] at hne; simp at hne
 have hfp := valid_fp hv
 have k11 := f11x g kk hsg hfp
 have k19 := fun m => f19x g kk m hsg hfp
 have k22 := fun m p hp => f22 g kk m p hel hkl he0 hp
 rw [early_at hv hkl he0, srch_at hv hkl he0] at k11
 dsimp only at k11
 simp only [pathR_F hv hkl he0] at k19
 have hshort : ∀ x p, pathF g e0 x = some p -> p.length <= 819200 := fun x p h => path_short g kk x hsg (by rw [pathR_F hv hkl he0]; exact h)
 have hearly := fun x => path_early (g := g) (x := e0) (m := x)
 obtain ⟨L, hL⟩ : ∃ L, earlyV g e0 = L := ⟨_, rfl⟩
 rw [hL] at k11
 have hLl := early_len g kk hsg
 rw [early_at hv hkl he0, hL] at hLl
 simp only [hL] at hearly
 simp only [encG] at k11 k19 k22
 refine z_l [(6, .sv (.one (.bool false))), (5, .sv (.one (.bx (encMs m)))), (3, .sv (.one (.bx (encG g)))), (1, .sv (.one (.int .u8 e)))] ?_ ?_
 ·refine wV encG.eq_1 k13 ?_
  refine z_m ?_
  simp [go_sem, encG]
 refine z_l [(7, .sv (.one (.int .i64 kk))), (6, .sv (.one (.bool false))), (5, .sv (.one (.bx (encMs m)))), (3, .sv (.one (.bx (encG g))))] ?_ ?_
 ·refine wX (aN encG.eq_1 <| aN hwr <| aN hkk <| aN hnz hge) ?_
  refine z_m ?_
  simp [go_sem, encG]
 refine z_l [(8, .sv (.one (.ow 2 (L.map encMs)))), (9, .sv (.one (.int .i64 0))), (7, .sv (.one (.int .i64 kk))), (6, .sv (.one (.bool false))), (5, .sv (.one (.bx (encMs m)))), (3, .sv (.one (.bx (encG g))))] ?_ ?_
 ·refine wV encG.eq_1 k11 ?_
  refine z_m ?_
  simp [go_sem, encG]
 refine z_l [(8, .sv (.one (.ow 2 (L.map encMs)))), (7, .sv (.one (.int .i64 kk))), (6, .sv (.one (.bool false))), (5, .sv (.one (.bx (encMs m)))), (3, .sv (.one (.bx (encG g))))] ?_ ?_
 ·refine wN ?_
  refine z_m ?_
  simp [go_sem]
 refine z_l [(10, .sv (.one (.bool false))), (8, .sv (.one (.ow 2 (L.map encMs)))), (7, .sv (.one (.int .i64 kk))), (6, .sv (.one (.bool false))), (5, .sv (.one (.bx (encMs m)))), (3, .sv (.one (.bx (encG g))))] ?_ ?_
 ·refine wN ?_
  refine z_m ?_
  simp [go_sem]
 refine z_l [(10, .sv (.one (.bool (L.any (eqM m))))), (7, .sv (.one (.int .i64 kk))), (6, .sv (.one (.bool false))), (5, .sv (.one (.bx (encMs m)))), (3, .sv (.one (.bx (encG g))))] ?_ ?_
 ·refine wN ?_
  refine z_k (fun n e => ∃ j : Nat, j + n = L.length /\ e = [(37, .sv (.one (.int .i64 j))), (36, .sv (.one (.int .i64 L.length))), (10, .sv (.one (.bool ((L.take j).any (eqM m))))), (8, .sv (.one (.ow 2 (L.map encMs)))), (7, .sv (.one (.int .i64 kk))), (6, .sv (.one (.bool false))), (5, .sv (.one (.bx (encMs m)))), (3, .sv (.one (.bx (encG g))))]) L.length _ ⟨0, by simp, rfl⟩ (by simp [go_sem]) ?_
  rintro n e' ⟨j, hj, rfl⟩
  by_cases hlt : j < L.length
  rotate_left
  ·have hjl : L.take j = L := List.take_of_length_le (by omega)
   rw [hjl]
   refine wX hlt ?_
   refine z_m ?_
   simp [go_sem]
  obtain ⟨x, hx⟩ : ∃ x, L[j] = x := ⟨_, rfl⟩
  have hxL : x ∈ L := hx ▸ List.getElem_mem hlt
  have hps := (hearly x).2 hxL
  obtain ⟨p, hp⟩ := Option.isSome_iff_exists.1 hps
  have hpl := hshort x p hp
  have k19x := k19 x
  rw [hp] at k19x
  simp only [resP, Option.isSome_some, if_true, encMs] at k19x
  have k22x := k22 x p (by omega)
  rw [path_right hB hor he0m hp] at k22x
  simp only [encMs] at k22x
  have hst := any_succ (p := eqM m) hlt
  rw [hx] at hst
  obtain ⟨fd, hfd⟩ : ∃ f, (L.take j).any (eqM m) = f := ⟨_, rfl⟩
  rw [hfd] at hst ⊢
  refine z_l [(38, .sv (.one (.bool true))), (37, .sv (.one (.int .i64 j))), (36, .sv (.one (.int .i64 L.length))), (10, .sv (.one (.bool fd))), (8, .sv (.one (.ow 2 (L.map encMs)))), (7, .sv (.one (.int .i64 kk))), (6, .sv (.one (.bool false))), (5, .sv (.one (.bx (encMs m)))), (3, .sv (.one (.bx (encG g))))] ?_ ?_
  ·refine wX hlt ?_
   refine z_m ?_
   simp [go_sem]
  refine z_l [(37, .sv (.one (.int .i64 j))), (36, .sv (.one (.int .i64 L.length))), (10, .sv (.one (.bool fd))), (8, .sv (.one (.ow 2 (L.map encMs)))), (7, .sv (.one (.int .i64 kk))), (6, .sv (.one (.bool false))), (5, .sv (.one (.bx (encMs m)))), (3, .sv (.one (.bx (encG g))))] ?_ ?_
  ·refine wX hlt ?_
   refine z_m ?_
   simp [go_sem]
  refine z_A ?_
  refine z_C ?_
  refine z_l [(11, .sv (.one (.int .i64 j))), (37, .sv (.one (.int .i64 j))), (36, .sv (.one (.int .i64 L.length))), (10, .sv (.one (.bool fd))), (8, .sv (.one (.ow 2 (L.map encMs)))), (7, .sv (.one (.int .i64 kk))), (6, .sv (.one (.bool false))), (5, .sv (.one (.bx (encMs m)))), (3, .sv (.one (.bx (encG g))))] ?_ ?_
  ·refine wN ?_
   refine z_m ?_
   simp [go_sem]
  refine z_l [(12, .sv (.one (.sl (p.map encI)))), (13, .sv (.one (.int .i64 0))), (11, .sv (.one (.int .i64 j))), (37, .sv (.one (.int .i64 j))), (36, .sv (.one (.int .i64 L.length))), (10, .sv (.one (.bool fd))), (8, .sv (.one (.ow 2 (L.map encMs)))), (7, .sv (.one (.int .i64 kk))), (6, .sv (.one (.bool false))), (5, .sv (.one (.bx (encMs m)))), (3, .sv (.one (.bx (encG g))))] ?_ ?_
  ·refine wV (aN hlt <| aN hx <| aN encG.eq_1 encMs.eq_1) k19x ?_
   refine z_m ?_
   simp [go_sem, encG, encMs]
  refine z_l [(11, .sv (.one (.int .i64 j))), (37, .sv (.one (.int .i64 j))), (36, .sv (.one (.int .i64 L.length))), (10, .sv (.one (.bool fd))), (8, .sv (.one (.ow 2 (L.map encMs)))), (7, .sv (.one (.int .i64 kk))), (6, .sv (.one (.bool false))), (5, .sv (.one (.bx (encMs m)))), (3, .sv (.one (.bx (encG g))))] ?_ ?_
  ·refine wV (aN hlt <| aN hx <| aN encG.eq_1 encMs.eq_1) k22x ?_
   refine z_m ?_
   simp [go_sem, encG, encMs]
  cases fd with
  | true =>
    rw [Bool.true_or] at hst
    refine wX (aN hlt <| aN hx encMs.eq_1) ?_
    refine z_j (n - 1) _ (by omega) ⟨j + 1, by omega, rfl⟩ ?_
    rw [hst]
    simp [go_sem, encMs]
  | false =>
    rw [Bool.false_or] at hst
    cases hm : eqM m x with
    | true =>
      rw [hm] at hst
      have hxm := eqM_iff.1 hm
      subst hxm
      refine wX (aN hlt <| aN hx encMs.eq_1) ?_
      refine z_j (n - 1) _ (by omega) ⟨j + 1, by omega, rfl⟩ ?_
      rw [hst]
      simp [go_sem, encMs]
    | false =>
      rw [hm] at hst
      unfold eqM at hm
      refine wX (aN hlt <| aN hx <| aN encMs.eq_1 hm) ?_
      refine z_j (n - 1) _ (by omega) ⟨j + 1, by omega, rfl⟩ ?_
      rw [hst]
      simp [go_sem, encMs]
 have k19m := k19 m
 have hem := hearly m
 cases hp : pathF g e0 m with
 | some p =>
   rw [hp] at k19m hem
   have ha : L.any (eqM m) = true := any_eqM.2 (hem.1 rfl)
   rw [ha]
   simp only [resP, Option.isSome_some, if_true, encMs] at k19m
   refine z_l [(14, .sv (.one (.sl (p.map encI)))), (15, .sv (.one (.int .i64 0))), (10, .sv (.one (.bool true)))] ?_ ?_
   ·refine wV (aN encG.eq_1 encMs.eq_1) k19m ?_
    refine z_m ?_
    simp [go_sem, encG, encMs]
   refine wN ?_
   simp [go_sem]
 | none =>
   rw [hp] at k19m hem
   have ha : L.any (eqM m) = false := by
    rw [Bool.eq_false_iff]
    intro h
    have := hem.2 (any_eqM.1 h)
    cases this
   rw [ha]
   simp only [resP, Option.isSome_none, Bool.false_eq_true, if_false, encMs] at k19m
   refine z_l [(14, .sv (.one .nil)), (15, .sv (.one (.int .i64 8))), (10, .sv (.one (.bool false)))] ?_ ?_
   ·refine wV (aN encG.eq_1 encMs.eq_1) k19m ?_
    refine z_m ?_
    simp [go_sem, encG, encMs]
   refine wN ?_
   simp [go_sem]
theorem f8 (g : Glob) (e : Int) (cs : List Int) (he : 0 <= e /\ e < 256) (hc : ∀ c ∈ cs, 0 <= c /\ c < 256) (hs : fewE g = true -> Small g) : Impl Tryz.prog 8 [.ag (encG g), .one (.int .u8 e), .one (.sl (cs.map encU))] (.one (.one (.bool true))) := by
 have k9 := f9
 have k13 := f13 g hs
 simp only [encG] at k13
 refine impl_v ?_
 refine z_l [(6, .sv (.one (.bool false))), (3, .sv (.one (.bx (encG g)))), (2, .sv (.one (.sl (cs.map encU)))), (1, .sv (.one (.int .u8 e)))] ?_ ?_
 ·refine wX encG.eq_1 ?_
  refine z_m ?_
  simp [go_sem, encG]
 refine z_l [(6, .sv (.one (.bool false))), (3, .sv (.one (.bx (encG g)))), (2, .sv (.one (.sl (cs.map encU)))), (1, .sv (.one (.int .u8 e)))] ?_ ?_
 ·refine wC k9 ?_
  refine z_m ?_
  simp [go_sem]
 cases hsm : smallE g with
 | false =>
   rw [hsm] at k13
   refine wV encG.eq_1 k13 ?_
   simp [go_sem]
 | true =>
 rw [hsm] at k13
 by_cases hcl : cs.length <= 30
 rotate_left
 ·have hcl2 : (30 : Int) < cs.length := by omega
  refine wV (aN encG.eq_1 hcl2) k13 ?_
  simp [go_sem]
 have hcl2 : ¬ (30 : Int) < cs.length := by omega
 unfold smallE at hsm
 simp only [Bool.and_eq_true, decide_eq_true_eq] at hsm
 obtain ⟨hfew, hv, hne⟩ := hsm
 have hsg := hs hfew
 have hel := hsg.edges
 have hB := edB_of hv
 have hor := (valid_parts hv).2.2
 obtain ⟨kk, hkk, hkl⟩ := tmod_edge he hne
 obtain ⟨e0, he0⟩ : ∃ x, g.edges[kk] = x := ⟨_, rfl⟩
 have he0m : e0 ∈ g.edges := he0 ▸ List.getElem_mem hkl
 have hwr : IntKind.i64.wrap e = e := z_h (by omega) (by omega)
 have hnz : ¬ (g.edges.length : Int) = 0 := by omega
 have hge : ¬ g.edges = [] := fun h => by rw [h] at hne; simp at hne
 have hfp := valid_fp hv
 have k11 := f11x g kk hsg hfp
 have k19 := fun m => f19x g kk m hsg hfp
 have k22 := fun m p hp => f22 g kk m p hel hkl he0 hp
 rw [early_at hv hkl he0, srch_at hv hkl he0] at k11
 dsimp only at k11
 simp only [pathR_F hv hkl he0] at k19
 obtain ⟨L, hL⟩ : ∃ L, earlyV g e0 = L := ⟨_, rfl⟩
 rw [hL] at k11
 have hLl := early_len g kk hsg
 rw [early_at hv hkl he0, hL] at hLl
 have k23 := f23 { g with start := e0.to } cs ⟨hsg.roles, hsg.decls, hsg.fields, hsg.parts, hsg.edges, hsg.timeouts⟩ hc (by omega)
 have hWl := word_len { g with start := e0.to } cs e0.to
 have hWe := word_edge { g with start := e0.to } cs e0.to
 dsimp only at k23 hWe
 obtain ⟨W, hW⟩ : ∃ W, wordV { g with start := e0.to } cs e0.to = W := ⟨_, rfl⟩
 obtain ⟨Z, hZ⟩ : ∃ Z, wordZ { g with start := e0.to } cs e0.to = Z := ⟨_, rfl⟩
 rw [hW] at hWl hWe
 rw [hW, hZ] at k23
 simp only [encG] at k11 k19 k22 k23
 refine z_l [(6, .sv (.one (.bool false))), (3, .sv (.one (.bx (encG g)))), (2, .sv (.one (.sl (cs.map encU)))), (1, .sv (.one (.int .u8 e)))] ?_ ?_
 ·refine wV (aN encG.eq_1 hcl2) k13 ?_
  refine z_m ?_
  simp [go_sem, encG]
 refine z_l [(7, .sv (.one (.int .i64 kk))), (6, .sv (.one (.bool false))), (3, .sv (.one (.bx (encG g)))), (2, .sv (.one (.sl (cs.map encU))))] ?_ ?_
 ·refine wX (aN encG.eq_1 <| aN hwr <| aN hkk <| aN hnz hge) ?_
  refine z_m ?_
  simp [go_sem, encG]
 refine z_l [(8, .sv (.one (.bx (encG g)))), (7, .sv (.one (.int .i64 kk))), (6, .sv (.one (.bool false))), (3, .sv (.one (.bx (encG g)))), (2, .sv (.one (.sl (cs.map encU))))] ?_ ?_
 ·refine wX encG.eq_1 ?_
  refine z_m ?_
  simp [go_sem, encG]
 refine z_l [(8, .sv (.one (.bx (encG { g with start := e0.to })))), (7, .sv (.one (.int .i64 kk))), (6, .sv (.one (.bool false))), (3, .sv (.one (.bx (encG g)))), (2, .sv (.one (.sl (cs.map encU))))] ?_ ?_
 ·refine wX (aN encG.eq_1 <| aN hkl <| aN he0 encEd.eq_1) ?_
  refine z_m ?_
  simp [go_sem, encG]
 refine z_l [(9, .sv (.one (.ow 3 (W.map encI)))), (7, .sv (.one (.int .i64 kk))), (6, .sv (.one (.bool false))), (3, .sv (.one (.bx (encG g)))), (2, .sv (.one (.sl (cs.map encU))))] ?_ ?_
 ·refine wV encG.eq_1 k23 ?_
  refine z_m ?_
  simp [go_sem, encG]
 refine z_l [(11, .sv (.one (.ow 2 (L.map encMs)))), (12, .sv (.one (.int .i64 0))), (9, .sv (.one (.ow 3 (W.map encI)))), (7, .sv (.one (.int .i64 kk))), (6, .sv (.one (.bool false))), (3, .sv (.one (.bx (encG g)))), (2, .sv (.one (.sl (cs.map encU))))] ?_ ?_
 ·refine wV encG.eq_1 k11 ?_
  refine z_m ?_
  simp [go_sem, encG]
 refine z_l [(11, .sv (.one (.ow 2 (L.map encMs)))), (9, .sv (.one (.ow 3 (W.map encI)))), (7, .sv (.one (.int .i64 kk))), (6, .sv (.one (.bool false))), (3, .sv (.one (.bx (encG g)))), (2, .sv (.one (.sl (cs.map encU))))] ?_ ?_
 ·refine wN ?_
  refine z_m ?_
  simp [go_sem]
 refine wN ?_
 refine z_k (fun w e => ∃ n : Nat, n + w = W.length + 1 /\ 1 <= n /\ e = [(13, .sv (.one (.int .i64 n))), (11, .sv (.one (.ow 2 (L.map encMs)))), (9, .sv (.one (.ow 3 (W.map encI)))), (7, .sv (.one (.int .i64 kk))), (6, .sv (.one (.bool false))), (3, .sv (.one (.bx (encG g)))), (2, .sv (.one (.sl (cs.map encU))))]) W.length _ ⟨1, by omega, by omega, rfl⟩ (by simp [go_sem]) ?_
 rintro w e' ⟨n, hn, hn1, rfl⟩
 by_cases hlt : n <= W.length
 rotate_left
 ·have hlt2 : ¬ (n : Int) <= W.length := by omega
  refine wX (aN hlt hlt2) ?_
  simp [go_sem]
 have hlt2 : (n : Int) <= W.length := by omega
 obtain ⟨q, rfl⟩ : ∃ q, n = q + 1 := ⟨n - 1, by omega⟩
 have hq : q < W.length := by omega
 have hq1 : ((q + 1 : Nat) : Int) - 1 = q := by omega
 obtain ⟨x, hx⟩ : ∃ x, W[q] = x := ⟨_, rfl⟩
 obtain ⟨y, hy, hyx⟩ := hWe x (hx ▸ List.getElem_mem hq)
 have hx0 : 0 <= x.from_ := by rw [<- hyx]; exact (hB.edge y hy).2.2.2.2.1
 obtain ⟨mm, hmm⟩ : ∃ m : Msg, m = ⟨x.from_, x.label⟩ := ⟨_, rfl⟩
 have hmp : mm.peer = x.from_ := by rw [hmm]
 have hml : mm.label = x.label := by rw [hmm]
 have k22n := k22 mm (W.take (q + 1)) (by rw [List.length_take]; omega)
 have k19n := k19 mm
 simp only [List.map_take, encMs, hmp, hml] at k22n
 simp only [encMs, hmp, hml] at k19n
 have hfi : ∀ y : Inter, frzL (encI y) = encI y := fun _ => rfl
 have hl3 : ∀ a : Inter, (encI a).length = 3 := fun _ => rfl
 have hq0 : (0 : Int) <= (q : Int) + 1 := by omega
 refine z_l [(13, .sv (.one (.int .i64 (q + 1 : Nat)))), (11, .sv (.one (.ow 2 (L.map encMs)))), (9, .sv (.one (.ow 3 (W.map encI)))), (7, .sv (.one (.int .i64 kk))), (6, .sv (.one (.bool false))), (3, .sv (.one (.bx (encG g)))), (2, .sv (.one (.sl (cs.map encU))))] ?_ ?_
 ·refine wX hlt2 ?_
  refine z_m ?_
  simp [go_sem]
 refine z_A ?_
 refine z_C ?_
 refine z_l [(14, .sv (.one (.bx ([.int .i64 x.from_, .int .i64 x.label])))), (13, .sv (.one (.int .i64 (q + 1 : Nat)))), (11, .sv (.one (.ow 2 (L.map encMs)))), (9, .sv (.one (.ow 3 (W.map encI)))), (7, .sv (.one (.int .i64 kk))), (6, .sv (.one (.bool false))), (3, .sv (.one (.bx (encG g)))), (2, .sv (.one (.sl (cs.map encU))))] ?_ ?_
 ·refine wX (aN hq <| aN hx <| aN encI.eq_1 hq1) ?_
  refine z_m ?_
  simp [go_sem]
 by_cases h1 : x.to = e0.act.to
 rotate_left
 ·refine wV (aN hq <| aN hx <| aN encI.eq_1 <| aN hq1 <| aN encG.eq_1 <| aN hkl <| aN he0 <| aN encEd.eq_1 <| aN h1 <| aN hfi <| aN hl3 <| aN hq0 hlt) k22n ?_
  refine z_j (w - 1) _ (by omega) ⟨q + 1 + 1, by omega, by omega, rfl⟩ ?_
  simp [go_sem, encG]
 cases hrb : rightB g.edges e0 x.from_ x.label (W.take (q + 1)) with
 | false =>
   rw [hrb] at k22n
   refine wV (aN hq <| aN hx <| aN encI.eq_1 <| aN hq1 <| aN encG.eq_1 <| aN hkl <| aN he0 <| aN encEd.eq_1 <| aN h1 <| aN hfi <| aN hl3 <| aN hq0 hlt) k22n ?_
   refine z_j (w - 1) _ (by omega) ⟨q + 1 + 1, by omega, by omega, rfl⟩ ?_
   simp [go_sem, encG]
 | true =>
 rw [hrb] at k22n
 obtain ⟨hmem, p, hp, hpl⟩ := path_least hB hor he0m (m := mm) (p := W.take (q + 1)) (by rw [hmp]; exact hx0) (by rw [hmp, hml]; exact hrb)
 rw [List.length_take] at hpl
 rw [hL] at hmem
 have hany : L.any (eqM mm) = true := any_eqM.2 hmem
 rw [hp] at k19n
 simp only [resP, Option.isSome_some, if_true] at k19n
 have hpl2 : ¬ ((q : Int) + 1 < p.length) := by omega
 refine z_l [(14, .sv (.one (.bx ([.int .i64 x.from_, .int .i64 x.label])))), (13, .sv (.one (.int .i64 (q + 1 : Nat)))), (11, .sv (.one (.ow 2 (L.map encMs)))), (9, .sv (.one (.ow 3 (W.map encI)))), (7, .sv (.one (.int .i64 kk))), (6, .sv (.one (.bool false))), (3, .sv (.one (.bx (encG g)))), (2, .sv (.one (.sl (cs.map encU))))] ?_ ?_
 ·refine wV (aN hq <| aN hx <| aN encI.eq_1 <| aN hq1 <| aN encG.eq_1 <| aN hkl <| aN he0 <| aN encEd.eq_1 <| aN h1 <| aN hfi <| aN hl3 <| aN hq0 hlt) k22n ?_
  refine z_m ?_
  simp [go_sem, encG]
 refine z_l [(15, .sv (.one (.bool false))), (14, .sv (.one (.bx ([.int .i64 x.from_, .int .i64 x.label])))), (13, .sv (.one (.int .i64 (q + 1 : Nat)))), (11, .sv (.one (.ow 2 (L.map encMs)))), (9, .sv (.one (.ow 3 (W.map encI)))), (7, .sv (.one (.int .i64 kk))), (6, .sv (.one (.bool false))), (3, .sv (.one (.bx (encG g)))), (2, .sv (.one (.sl (cs.map encU))))] ?_ ?_
 ·refine wN ?_
  refine z_m ?_
  simp [go_sem]
 refine z_l [(15, .sv (.one (.bool true))), (14, .sv (.one (.bx ([.int .i64 x.from_, .int .i64 x.label])))), (13, .sv (.one (.int .i64 (q + 1 : Nat)))), (11, .sv (.one (.ow 2 (L.map encMs)))), (9, .sv (.one (.ow 3 (W.map encI)))), (7, .sv (.one (.int .i64 kk))), (6, .sv (.one (.bool false))), (3, .sv (.one (.bx (encG g)))), (2, .sv (.one (.sl (cs.map encU))))] ?_ ?_
 ·refine wN ?_
  refine z_k (fun v e => ∃ j : Nat, j + v = L.length /\ e = [(102, .sv (.one (.int .i64 j))), (101, .sv (.one (.int .i64 L.length))), (15, .sv (.one (.bool ((L.take j).any (eqM mm))))), (14, .sv (.one (.bx ([.int .i64 x.from_, .int .i64 x.label])))), (13, .sv (.one (.int .i64 (q + 1 : Nat)))), (11, .sv (.one (.ow 2 (L.map encMs)))), (9, .sv (.one (.ow 3 (W.map encI)))), (7, .sv (.one (.int .i64 kk))), (6, .sv (.one (.bool false))), (3, .sv (.one (.bx (encG g)))), (2, .sv (.one (.sl (cs.map encU))))]) L.length _ ⟨0, by simp, rfl⟩ (by simp [go_sem]) ?_
  rintro v e2 ⟨j, hj, rfl⟩
  by_cases hjl : j < L.length
  rotate_left
  ·have hjt : L.take j = L := List.take_of_length_le (by omega)
   rw [hjt, hany]
   refine wX hjl ?_
   refine z_m ?_
   simp [go_sem]
  obtain ⟨z, hz⟩ : ∃ z, L[j] = z := ⟨_, rfl⟩
  have hst := any_succ (p := eqM mm) hjl
  rw [hz] at hst
  obtain ⟨fd, hfd⟩ : ∃ f, (L.take j).any (eqM mm) = f := ⟨_, rfl⟩
  rw [hfd] at hst ⊢
  cases fd with
  | true =>
    rw [Bool.true_or] at hst
    refine wX (aN hjl <| aN hz encMs.eq_1) ?_
    refine z_j (v - 1) _ (by omega) ⟨j + 1, by omega, rfl⟩ ?_
    rw [hst]
    simp [go_sem]
  | false =>
    rw [Bool.false_or] at hst
    have hem : eqM mm z = (z.peer == x.from_ && z.label == x.label) := by unfold eqM; rw [hmp, hml]
    rw [hem] at hst
    cases hm : (z.peer == x.from_ && z.label == x.label) with
    | true =>
      rw [hm] at hst
      have hm2 : (z.peer == x.from_) = true /\ (z.label == x.label) = true := by simpa using hm
      have e1 : z.peer = x.from_ := by simpa using hm2.1
      have e2 : z.label = x.label := by simpa using hm2.2
      refine wX (aN hjl <| aN hz <| aN encMs.eq_1 <| aN e1 e2) ?_
      refine z_j (v - 1) _ (by omega) ⟨j + 1, by omega, rfl⟩ ?_
      rw [hst]
      simp [go_sem]
    | false =>
      rw [hm] at hst
      refine wX (aN hjl <| aN hz <| aN encMs.eq_1 hm) ?_
      refine z_j (v - 1) _ (by omega) ⟨j + 1, by omega, rfl⟩ ?_
      rw [hst]
      simp [go_sem]
 refine z_l [(17, .sv (.one (.sl (p.map encI)))), (18, .sv (.one (.int .i64 0))), (15, .sv (.one (.bool true))), (13, .sv (.one (.int .i64 (q + 1 : Nat)))), (11, .sv (.one (.ow 2 (L.map encMs)))), (9, .sv (.one (.ow 3 (W.map encI)))), (7, .sv (.one (.int .i64 kk))), (6, .sv (.one (.bool false))), (3, .sv (.one (.bx (encG g)))), (2, .sv (.one (.sl (cs.map encU))))] ?_ ?_
 ·refine wV encG.eq_1 k19n ?_
  refine z_m ?_
  simp [go_sem, encG]
 refine wX hpl2 ?_
 refine z_j (w - 1) _ (by omega) ⟨q + 1 + 1, by omega, by omega, rfl⟩ ?_
 simp [go_sem, encG]
end Go.Av
