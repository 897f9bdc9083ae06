/- early.search. -/
import Derived.Test.YtbfebdbdoclagaaGreatDoorAvR
import Derived.Test.YtbfebdbdoclagaaGreatDoorB08
set_option linter.unusedVariables false
set_option linter.unusedSimpArgs false
set_option maxHeartbeats 64000000
set_option maxRecDepth 8000
namespace Go.Av
open Go Go.RowKit Go.Proofs
set_option maxHeartbeats 64000000
theorem f25 (g : Glob) (k : Int) (hs : Small g) (k42 : Impl Tryz.prog 42 [.ag (encG g)] (.one (.one (.bool (valid29 g)))))
  (h43 : ∀ l : List Edg, l.length <= 1000 -> (∀ x ∈ l, ∀ y ∈ l, Go.Proofs.ltOf ordX x y = false -> Go.Proofs.ltOf ordX y x = false -> x = y) -> ImplM Tryz.prog 43 (.ow 6 (l.map encEd)) [.one (.fn 44 [])] (.ow 6 ((sortL ordX l).map encEd)))
  (h43n : Impl Tryz.prog 43 [.one (.sl []), .one (.fn 44 [])] (.tup []))
  (hv : valid29 g = true -> EdB g /\ orderedB g true = true /\ numbered g = true) :
  Impl Tryz.prog 25 [.ag (encG g), .one (.int .i64 k)] (.tup [.one (resF (srchR g k).1), .one (.int .i64 (srchR g k).2)]) := by
 have hel := hs.edges
 simp only [encG] at k42
 refine impl_v ?_
 refine z_l [(5, .sv (.one (.int .i64 0))), (4, .sv (.one .nil)), (2, .sv (.one (.bx (encG g)))), (1, .sv (.one (.int .i64 k)))] ?_ ?_
 ·refine wX encG.eq_1 ?_
  refine z_m ?_
  simp [go_sem, encG]
 cases hg : valid29 g with
 | false =>
   have hr : srchR g k = (none, 1) := by unfold srchR; rw [hg]; rfl
   rw [hr]
   rw [hg] at k42
   refine wV encG.eq_1 k42 ?_
   simp [go_sem, resF]
 | true =>
 rw [hg] at k42
 obtain ⟨hB, ho, hnb⟩ := hv hg
 by_cases hk0 : k < 0
 ·have hr : srchR g k = (none, 2) := by
   unfold srchR
   rw [hg, if_pos rfl, if_neg (by omega)]
  rw [hr]
  refine wV (aN encG.eq_1 hk0) k42 ?_
  simp [go_sem, resF]
 obtain ⟨kn, rfl⟩ : ∃ n : Nat, k = n := ⟨k.toNat, by omega⟩
 by_cases hk1 : kn < g.edges.length
 rotate_left
 ·have hr : srchR g kn = (none, 2) := by
   unfold srchR
   rw [hg, if_pos rfl, if_pos (by omega), Int.toNat_natCast, List.getElem?_eq_none (by omega)]
  have hk2 : (g.edges.length : Int) <= kn := by omega
  rw [hr]
  refine wV (aN encG.eq_1 <| aN hk0 hk2) k42 ?_
  simp [go_sem, resF]
 obtain ⟨e0, he0⟩ : ∃ e, g.edges[kn] = e := ⟨_, rfl⟩
 have he0m : e0 ∈ g.edges := he0 ▸ List.getElem_mem hk1
 have hr : srchR g kn = (some (searchV g e0), 0) := by
  unfold srchR
  rw [hg, if_pos rfl, if_pos (by omega), Int.toNat_natCast, List.getElem?_eq_getElem hk1, he0]
 rw [hr]
 have hk2 : ¬ (g.edges.length : Int) <= kn := by omega
 refine z_l [(5, .sv (.one (.int .i64 0))), (4, .sv (.one .nil)), (2, .sv (.one (.bx (encG g)))), (1, .sv (.one (.int .i64 kn)))] ?_ ?_
 ·refine wV (aN encG.eq_1 <| aN hk0 hk2) k42 ?_
  refine z_m ?_
  simp [go_sem, encG]
 have hst := hB.states
 obtain ⟨S, hS⟩ : ∃ S : Nat, g.states = S := ⟨g.states.toNat, by
  have := (hB.edge e0 he0m)
  omega⟩
 have hS2 : S <= 200 := by omega
 refine z_l [(6, .sv (.one (.ow 1 (rowsX S fun _ => [])))), (5, .sv (.one (.int .i64 0))), (4, .sv (.one .nil)), (2, .sv (.one (.bx (encG g)))), (1, .sv (.one (.int .i64 kn)))] ?_ ?_
 ·refine wX (aN encG.eq_1 hS) ?_
  refine z_m ?_
  simp [go_sem, encG, rowsX_nil, hS]
 refine z_l [(6, .sv (.one (.ow 1 (rowsX S (firstE g g.edges.length))))), (5, .sv (.one (.int .i64 0))), (4, .sv (.one .nil)), (2, .sv (.one (.bx (encG g)))), (1, .sv (.one (.int .i64 kn)))] ?_ ?_
 ·have hfz : firstE g 0 = fun _ => [] := by
   funext s
   rfl
  refine wX (aN encG.eq_1 @rowsX_len) ?_
  refine z_k (fun n e => ∃ j : Nat, j + n = g.edges.length /\ e = [(44, .sv (.one (.int .i64 j))), (43, .sv (.one (.int .i64 g.edges.length))), (42, .sv (.one (.sl (g.edges.map encEd)))), (6, .sv (.one (.ow 1 (rowsX S (firstE g j))))), (5, .sv (.one (.int .i64 0))), (4, .sv (.one .nil)), (2, .sv (.one (.bx (encG g)))), (1, .sv (.one (.int .i64 kn)))]) g.edges.length _ ⟨0, by simp, by rw [hfz]⟩ (by simp [go_sem, encG, hfz]) ?_
  rintro n e ⟨j, hj, rfl⟩
  by_cases hlt : j < g.edges.length
  ·obtain ⟨x, hx⟩ : ∃ x, g.edges[j] = x := ⟨_, rfl⟩
   obtain ⟨e1, e2, _⟩ := hB.edge x (hx ▸ List.getElem_mem hlt)
   obtain ⟨s, hxs⟩ : ∃ s : Nat, x.from_ = s := ⟨x.from_.toNat, by omega⟩
   have hsS : s < S := by omega
   obtain ⟨F, hF⟩ : ∃ F, firstE g j = F := ⟨_, rfl⟩
   have hnew := firstE_succ hlt hx s
   rw [if_pos hxs] at hnew
   have hset := rowsX_set (S := S) (s := s) hsS (f := firstE g j) (f' := firstE g (j + 1)) fun t ht => by
    rw [firstE_succ hlt hx, if_neg (by omega)]
   rw [hnew] at hset
   have hFl := firstE_len g j s
   rw [hF] at hset hFl ⊢
   have r1 := rowsX_at hsS F
   have r2 := rowsX_get hsS F
   have hRl := rowsX_len S F
   have hxe2 : encEd x = [.int .i64 s, .int .i64 x.act.from_, .int .i64 x.act.to, .int .i64 x.act.label, .int .i64 x.to, .bool x.again] := by
    unfold encEd
    rw [hxs]
   cases hFs : F s with
   | nil =>
     rw [hFs] at r1 r2 hset
     simp only [rowD, List.nil_append, List.map_cons, List.map_nil, hxe2] at r1 r2 hset
     have hap := appendOk_ed (l := []) (x := x) (by simp)
     simp only [List.map_nil, hxe2] at hap
     refine wX (aN hlt <| aN hx <| aN hxs <| aN hsS <| aN r1 <| aN r2 <| aN hRl <| aN hset <| aN hap hxe2) ?_
     refine z_j (n - 1) _ (by omega) ⟨j + 1, by omega, rfl⟩ ?_
     simp [go_sem, encG, hset]
   | cons y L =>
     rw [hFs] at r1 r2 hset hFl
     have hap := appendOk_ed (l := y :: L) (x := x) (by omega)
     simp only [rowD, List.cons_append, List.map_cons, List.map_append, List.map_nil, hxe2] at r1 r2 hset hap
     refine wX (aN hlt <| aN hx <| aN hxs <| aN hsS <| aN r1 <| aN r2 <| aN hRl <| aN hset <| aN hap hxe2) ?_
     refine z_j (n - 1) _ (by omega) ⟨j + 1, by omega, rfl⟩ ?_
     simp [go_sem, encG, hset]
  ·have hje : j = g.edges.length := by omega
   subst hje
   refine wN ?_
   refine z_m ?_
   simp [go_sem, encG]
 refine z_l [(6, .sv (.one (.sl (rowsY S fun s => outE g s)))), (5, .sv (.one (.int .i64 0))), (4, .sv (.one .nil)), (2, .sv (.one (.bx (encG g)))), (1, .sv (.one (.int .i64 kn)))] ?_ ?_
 ·refine wX rowsX_len ?_
  refine z_k (fun n e => ∃ j : Nat, j + n = S /\ e = [(63, .sv (.one (.int .i64 j))), (62, .sv (.one (.int .i64 S))), (61, .al 6 []), (6, .sv (.one (.ow 1 (rowsX S (mixE g j))))), (5, .sv (.one (.int .i64 0))), (4, .sv (.one .nil)), (2, .sv (.one (.bx (encG g)))), (1, .sv (.one (.int .i64 kn)))]) S _ ⟨0, by simp, by rw [mix_zero]⟩ (by simp [go_sem, encG, mix_zero]) ?_
  rintro n e ⟨j, hj, rfl⟩
  by_cases hlt : j < S
  ·have hset := rowsX_set (S := S) (s := j) hlt (f := mixE g j) (f' := mixE g (j + 1)) fun t ht => by
    unfold mixE
    by_cases h1 : t < j
    ·rw [if_pos h1, if_pos (by omega)]
    ·rw [if_neg h1, if_neg (by omega)]
   have e1 : mixE g j j = firstE g g.edges.length j := by unfold mixE; rw [if_neg (by omega)]
   have e2 : mixE g (j + 1) j = outE g j := by unfold mixE; rw [if_pos (by omega)]
   have r1 := rowsX_at hlt (mixE g j)
   have r2 := rowsX_get hlt (mixE g j)
   have hRl := rowsX_len S (mixE g j)
   rw [e1] at r1 r2
   rw [e2] at hset
   cases hFs : firstE g g.edges.length j with
   | nil =>
     have hsame : rowsX S (mixE g (j + 1)) = rowsX S (mixE g j) := by
      rw [<- hset, outE_nil hFs]
      apply List.ext_getElem?
      intro i
      rw [List.getElem?_set, rowsX_len]
      by_cases hi : j = i
      ·subst hi
       rw [if_pos rfl, if_pos hlt, r1, hFs]
      ·rw [if_neg hi]
     rw [hFs] at r1 r2
     simp only [rowD] at r1 r2
     refine wV (aN hlt <| aN r1 <| aN r2 hRl) h43n ?_
     refine z_j (n - 1) _ (by omega) ⟨j + 1, by omega, rfl⟩ ?_
     simp [go_sem, encG, hsame]
   | cons y L =>
     obtain ⟨z, m, hom⟩ := outE_cons hFs
     have hlen := firstE_len g g.edges.length j
     have k43 := h43 (firstE g g.edges.length j) (by omega) (by rw [first_all]; exact edges_apart ho j)
     rw [first_all, sort_out ho, <- first_all, hFs, hom] at k43
     rw [hFs] at r1 r2
     rw [hom] at hset
     simp only [rowD, List.map_cons] at r1 r2 hset k43
     refine wX (aN hlt <| aN r1 <| aN r2 hRl) ?_
     refine Ru.go ?_
     intro K hK
     simp [go_sem, hlt, r1, r2, hRl]
     refine .inr ⟨_, k43, hK _ ?_⟩
     rw [hset]
     refine wX hlt ?_
     refine z_j (n - 1) _ (by omega) ⟨j + 1, by omega, rfl⟩ ?_
     simp [go_sem, encG]
  ·have hje : j = S := by omega
   subst hje
   refine wX hlt ?_
   refine cutQ_all 6 ?_
   simp [go_sem, encG, mix_end, frz_rows]
 obtain ⟨a1, a2, a3, a4, a5, a6, a7, a8, a9⟩ := hB.edge e0 he0m
 obtain ⟨pn, hpn⟩ : ∃ n : Nat, e0.act.to = n := ⟨e0.act.to.toNat, by omega⟩
 have hp6 : pn < 6 := by omega
 obtain ⟨R, hR⟩ : ∃ R, searchV g e0 = R := ⟨_, rfl⟩
 rw [hR]
 unfold searchV at hR
 refine z_l [(11, .sv (.one (.int .i64 pn))), (6, .sv (.one (.sl (rowsY S fun s => outE g s)))), (5, .sv (.one (.int .i64 0))), (4, .sv (.one .nil)), (2, .sv (.one (.bx (encG g)))), (1, .sv (.one (.int .i64 kn)))] ?_ ?_
 ·refine wX (aN hk1 <| aN he0 <| aN hpn <| aN encEd.eq_1 encG.eq_1) ?_
  refine z_m ?_
  simp [go_sem, encG]
 have hsh0 : IntKind.u8.wrap (2 ^ min pn 8) = (setB 0 e0.act.to : Nat) := by
  rw [hpn]
  exact sh8 ⟨pn, hp6⟩
 refine z_l [(12, .sv (.one (.bx (encPc (firstV e0))))), (11, .sv (.one (.int .i64 pn))), (6, .sv (.one (.sl (rowsY S fun s => outE g s)))), (5, .sv (.one (.int .i64 0))), (4, .sv (.one .nil)), (2, .sv (.one (.bx (encG g)))), (1, .sv (.one (.int .i64 kn)))] ?_ ?_
 ·refine wX (aN hk1 <| aN he0 <| aN encEd.eq_1 <| aN encG.eq_1 hsh0) ?_
  refine z_m ?_
  simp [go_sem, encG, encPc, firstV, hsh0]
 have hko0 := keyOkP (firstV e0) []
 have hm0 : metP [] = [] := rfl
 rw [hm0] at hko0
 simp only [keyP] at hko0
 refine z_l [(13, .sv (.one (.mp (metP [firstV e0])))), (12, .sv (.one (.bx (encPc (firstV e0))))), (11, .sv (.one (.int .i64 pn))), (6, .sv (.one (.sl (rowsY S fun s => outE g s)))), (5, .sv (.one (.int .i64 0))), (4, .sv (.one .nil)), (2, .sv (.one (.bx (encG g)))), (1, .sv (.one (.int .i64 kn)))] ?_ ?_
 ·refine wX (aN hko0 <| aN mpSet.eq_1 <| aN mpSet.eq_2 <| aN encPc.eq_1 keyP.eq_1) ?_
  refine z_m ?_
  simp [go_sem, encG, metP, mpSet, keyP, encPc]
 refine z_l [(14, .sv (.one (.ow 7 ([vzOf (firstV e0) (-1) ⟨0, 0, 0⟩].map encVz)))), (13, .sv (.one (.mp (metP [firstV e0])))), (11, .sv (.one (.int .i64 pn))), (6, .sv (.one (.sl (rowsY S fun s => outE g s)))), (5, .sv (.one (.int .i64 0))), (4, .sv (.one .nil)), (2, .sv (.one (.bx (encG g)))), (1, .sv (.one (.int .i64 kn)))] ?_ ?_
 ·refine wX encPc.eq_1 ?_
  refine z_m ?_
  simp [go_sem, encG, vzOf, encVz, firstV]
 refine z_l [(15, .sv (.one .nil)), (14, .sv (.one (.ow 7 ([vzOf (firstV e0) (-1) ⟨0, 0, 0⟩].map encVz)))), (13, .sv (.one (.mp (metP [firstV e0])))), (11, .sv (.one (.int .i64 pn))), (6, .sv (.one (.sl (rowsY S fun s => outE g s)))), (5, .sv (.one (.int .i64 0))), (4, .sv (.one .nil)), (2, .sv (.one (.bx (encG g)))), (1, .sv (.one (.int .i64 kn)))] ?_ ?_
 ·refine wN ?_
  refine z_m ?_
  simp [go_sem]
 have hq0 : QOk g [firstV e0] := ⟨fun v hv => by
  rw [List.mem_singleton.1 hv]
  exact ⟨a3, a4, setB_lt (by decide) a7 a8, by simp [firstV]⟩, by simp⟩
 refine wN ?_
 refine z_k (fun fu e => ∃ (i : Nat) (q : List Vs) (F : List Fnd) (zs : List Vz), bfsV g e0.act.to fu i (q, F) = R /\ fu + i = 1000000 /\ (i <= q.length /\ QOk g q /\ RelQ zs q /\ F.length <= 1000 * i) /\ e = [(16, .sv (.one (.int .i64 i))), (15, .sv (.one (.ow 3 (F.map encFd)))), (14, .sv (.one (.ow 7 (zs.map encVz)))), (13, .sv (.one (.mp (metP q)))), (11, .sv (.one (.int .i64 pn))), (6, .sv (.one (.sl (rowsY S fun s => outE g s)))), (5, .sv (.one (.int .i64 0))), (4, .sv (.one .nil)), (2, .sv (.one (.bx (encG g)))), (1, .sv (.one (.int .i64 kn)))]) 1000000 _ ⟨0, [firstV e0], [], _, hR, rfl, ⟨by simp, hq0, relQ_first e0, by simp⟩, rfl⟩ (by simp [go_sem, encG]) ?_
 rintro fu e ⟨i, q, F, zs, hfi, hfu, ⟨hiq, hqo, hrq, hFl⟩, rfl⟩
 have hql := queue_len hB hqo
 have hzl := hrq.len
 by_cases hlt : i < q.length
 rotate_left
 ·have hni : q[i]? = none := List.getElem?_eq_none (by omega)
  have hR' : F = R := by
   rw [<- hfi]
   cases fu with
   | zero => rfl
   | succ fu => simp only [bfsV, hni]
  subst hR'
  have hlt2 : ¬ i < zs.length := by omega
  refine wX hlt2 ?_
  simp [go_sem, resF]
 obtain ⟨m, rfl⟩ : ∃ m, fu = m + 1 := ⟨fu - 1, by omega⟩
 obtain ⟨z, v, hz, hvq, hz1, hz2, hz3, _⟩ := hrq.at_ i hlt
 have hilz : i < zs.length := by omega
 have hzi : zs[i] = z := by
  rw [List.getElem?_eq_getElem hilz] at hz
  exact Option.some.inj hz
 have hze : encVz z = [.int .i64 v.st, .int .u8 v.bl, .int .u8 v.sn, .int .i64 z.ah, .int .i64 z.act.from_, .int .i64 z.act.to, .int .i64 z.act.label] := by
  unfold encVz
  rw [hz1, hz2, hz3]
 have hvo := hqo.ok v (List.mem_of_getElem? hvq)
 simp only [bfsV, hvq] at hfi
 refine z_l [(16, .sv (.one (.int .i64 i))), (15, .sv (.one (.ow 3 (F.map encFd)))), (14, .sv (.one (.ow 7 (zs.map encVz)))), (13, .sv (.one (.mp (metP q)))), (11, .sv (.one (.int .i64 pn))), (6, .sv (.one (.sl (rowsY S fun s => outE g s)))), (5, .sv (.one (.int .i64 0))), (4, .sv (.one .nil)), (2, .sv (.one (.bx (encG g)))), (1, .sv (.one (.int .i64 kn)))] ?_ ?_
 ·refine wX hilz ?_
  refine z_m ?_
  simp [go_sem]
 refine z_A ?_
 refine z_C ?_
 refine z_l [(17, .sv (.one (.bx (encPc v)))), (16, .sv (.one (.int .i64 i))), (15, .sv (.one (.ow 3 (F.map encFd)))), (14, .sv (.one (.ow 7 (zs.map encVz)))), (13, .sv (.one (.mp (metP q)))), (11, .sv (.one (.int .i64 pn))), (6, .sv (.one (.sl (rowsY S fun s => outE g s)))), (5, .sv (.one (.int .i64 0))), (4, .sv (.one .nil)), (2, .sv (.one (.bx (encG g)))), (1, .sv (.one (.int .i64 kn)))] ?_ ?_
 ·refine wX (aN hilz <| aN hzi hze) ?_
  refine z_m ?_
  simp [go_sem, encPc]
 obtain ⟨s, hst⟩ : ∃ s : Nat, v.st = s := ⟨v.st.toNat, by have := hvo.st0; omega⟩
 have hsS : s < S := by have := hvo.st1; omega
 have r1 := rowsY_at hsS fun s => outE g s
 have r2 := rowsY_get hsS fun s => outE g s
 have hRl := rowsY_len S fun s => outE g s
 rw [hst] at hfi
 obtain ⟨xs, hxs⟩ : ∃ xs, outE g (s : Int) = xs := ⟨_, rfl⟩
 have hxm : ∀ x ∈ xs, x ∈ g.edges /\ x.from_ = (s : Int) := fun x hx => outE_mem.1 (hxs ▸ hx)
 have hxl := outE_len g s
 rw [hxs] at hfi r1 r2 hxl
 cases hxc : xs with
 | nil =>
   subst hxc
   simp only [rowS, List.foldl_nil] at r1 r2 hfi
   refine wX (aN hst <| aN r1 <| aN r2 <| aN hsS <| aN hRl encPc.eq_1) ?_
   refine z_k (fun w e => w = 0 /\ e = [(109, .sv (.one (.int .i64 0))), (108, .sv (.one (.int .i64 0))), (17, .sv (.one (.bx (encPc v)))), (16, .sv (.one (.int .i64 i))), (15, .sv (.one (.ow 3 (F.map encFd)))), (14, .sv (.one (.ow 7 (zs.map encVz)))), (13, .sv (.one (.mp (metP q)))), (11, .sv (.one (.int .i64 pn))), (6, .sv (.one (.sl (rowsY S fun s => outE g s)))), (5, .sv (.one (.int .i64 0))), (4, .sv (.one .nil)), (2, .sv (.one (.bx (encG g)))), (1, .sv (.one (.int .i64 kn)))]) 0 _ ⟨rfl, rfl⟩ (by simp [go_sem, encPc, hst]) ?_
   rintro w e ⟨_, rfl⟩
   refine wN ?_
   refine z_j m _ (by omega) ⟨i + 1, q, F, zs, hfi, by omega, ⟨by omega, hqo, hrq, by omega⟩, rfl⟩ ?_
   simp [go_sem, encG]
 | cons x0 xs0 =>
 have hrS : rowS xs = .sl (xs.map encEd) := by rw [hxc]; rfl
 rw [hrS] at r1 r2
 clear hxc
 refine wX (aN hst <| aN r1 <| aN r2 <| aN hsS <| aN hRl encPc.eq_1) ?_
 refine z_k (fun w e => ∃ (j : Nat) (q1 : List Vs) (F1 : List Fnd) (zs1 : List Vz), j + w = xs.length /\ (q1, F1) = (xs.take j).foldl (stepV e0.act.to v) (q, F) /\ (QOk g q1 /\ RelQ zs1 q1 /\ q1[i]? = some v /\ F1.length <= 1000 * i + j) /\ e = [(109, .sv (.one (.int .i64 j))), (108, .sv (.one (.int .i64 xs.length))), (107, .sv (.one (.sl (xs.map encEd)))), (17, .sv (.one (.bx (encPc v)))), (16, .sv (.one (.int .i64 i))), (15, .sv (.one (.ow 3 (F1.map encFd)))), (14, .sv (.one (.ow 7 (zs1.map encVz)))), (13, .sv (.one (.mp (metP q1)))), (11, .sv (.one (.int .i64 pn))), (6, .sv (.one (.sl (rowsY S fun s => outE g s)))), (5, .sv (.one (.int .i64 0))), (4, .sv (.one .nil)), (2, .sv (.one (.bx (encG g)))), (1, .sv (.one (.int .i64 kn)))]) xs.length _ ⟨0, q, F, zs, by simp, rfl, ⟨hqo, hrq, hvq, by omega⟩, rfl⟩ (by simp [go_sem, encPc, hst]) ?_
 rintro w e ⟨j, q1, F1, zs1, hj, hfold, ⟨hqo1, hrq1, hvq1, hFl1⟩, rfl⟩
 have hql1 := queue_len hB hqo1
 have hzl1 := hrq1.len
 have hiq1 := (List.getElem?_eq_some_iff.1 hvq1).1
 by_cases hjl : j < xs.length
 rotate_left
 ·have hkj : xs.take j = xs := List.take_of_length_le (by omega)
  rw [hkj] at hfold
  rw [<- hfold] at hfi
  refine wX hjl ?_
  refine z_j m _ (by omega) ⟨i + 1, q1, F1, zs1, hfi, by omega, ⟨by omega, hqo1, hrq1, by omega⟩, rfl⟩ ?_
  simp [go_sem, encG]
 obtain ⟨x, hx⟩ : ∃ x, xs[j] = x := ⟨_, rfl⟩
 obtain ⟨hxe, hxf⟩ := hxm x (hx ▸ List.getElem_mem hjl)
 obtain ⟨b1, b2, b3, b4, b5, b6, b7, b8, b9⟩ := hB.edge x hxe
 refine z_l [(110, .sv (.one (.bool true))), (109, .sv (.one (.int .i64 j))), (108, .sv (.one (.int .i64 xs.length))), (107, .sv (.one (.sl (xs.map encEd)))), (17, .sv (.one (.bx (encPc v)))), (16, .sv (.one (.int .i64 i))), (15, .sv (.one (.ow 3 (F1.map encFd)))), (14, .sv (.one (.ow 7 (zs1.map encVz)))), (13, .sv (.one (.mp (metP q1)))), (11, .sv (.one (.int .i64 pn))), (6, .sv (.one (.sl (rowsY S fun s => outE g s)))), (5, .sv (.one (.int .i64 0))), (4, .sv (.one .nil)), (2, .sv (.one (.bx (encG g)))), (1, .sv (.one (.int .i64 kn)))] ?_ ?_
 ·refine wX hjl ?_
  refine z_m ?_
  simp [go_sem]
 refine z_l [(109, .sv (.one (.int .i64 j))), (108, .sv (.one (.int .i64 xs.length))), (107, .sv (.one (.sl (xs.map encEd)))), (17, .sv (.one (.bx (encPc v)))), (16, .sv (.one (.int .i64 i))), (15, .sv (.one (.ow 3 (F1.map encFd)))), (14, .sv (.one (.ow 7 (zs1.map encVz)))), (13, .sv (.one (.mp (metP q1)))), (11, .sv (.one (.int .i64 pn))), (6, .sv (.one (.sl (rowsY S fun s => outE g s)))), (5, .sv (.one (.int .i64 0))), (4, .sv (.one .nil)), (2, .sv (.one (.bx (encG g)))), (1, .sv (.one (.int .i64 kn)))] ?_ ?_
 ·refine wN ?_
  refine z_m ?_
  simp [go_sem]
 refine z_A ?_
 refine z_C ?_
 refine z_l [(19, .sv (.one (.bx (encEd x)))), (109, .sv (.one (.int .i64 j))), (108, .sv (.one (.int .i64 xs.length))), (107, .sv (.one (.sl (xs.map encEd)))), (17, .sv (.one (.bx (encPc v)))), (16, .sv (.one (.int .i64 i))), (15, .sv (.one (.ow 3 (F1.map encFd)))), (14, .sv (.one (.ow 7 (zs1.map encVz)))), (13, .sv (.one (.mp (metP q1)))), (11, .sv (.one (.int .i64 pn))), (6, .sv (.one (.sl (rowsY S fun s => outE g s)))), (5, .sv (.one (.int .i64 0))), (4, .sv (.one .nil)), (2, .sv (.one (.bx (encG g)))), (1, .sv (.one (.int .i64 kn)))] ?_ ?_
 ·refine wX (aN hjl <| aN hx encEd.eq_1) ?_
  refine z_m ?_
  simp [go_sem, encEd]
 refine z_l [(20, .sv (.one (.bx [.int .i64 x.to, .int .u8 v.bl, .int .u8 v.sn]))), (19, .sv (.one (.bx (encEd x)))), (109, .sv (.one (.int .i64 j))), (108, .sv (.one (.int .i64 xs.length))), (107, .sv (.one (.sl (xs.map encEd)))), (17, .sv (.one (.bx (encPc v)))), (16, .sv (.one (.int .i64 i))), (15, .sv (.one (.ow 3 (F1.map encFd)))), (14, .sv (.one (.ow 7 (zs1.map encVz)))), (13, .sv (.one (.mp (metP q1)))), (11, .sv (.one (.int .i64 pn))), (6, .sv (.one (.sl (rowsY S fun s => outE g s)))), (5, .sv (.one (.int .i64 0))), (4, .sv (.one .nil)), (2, .sv (.one (.bx (encG g)))), (1, .sv (.one (.int .i64 kn)))] ?_ ?_
 ·refine wX (aN encEd.eq_1 encPc.eq_1) ?_
  refine z_m ?_
  simp [go_sem, encEd, encPc]
 obtain ⟨wn, hwn⟩ : ∃ wn, nxtV e0.act.to v x = wn := ⟨_, rfl⟩
 obtain ⟨F2, hF2⟩ : ∃ F2, (if isNew e0.act.to v x then noteF F1 (fndV v x) else F1) = F2 := ⟨_, rfl⟩
 have hF2l : F2.length <= F1.length + 1 := by
  rw [<- hF2]
  split
  ·unfold noteF
   split
   ·omega
   ·simp
  ·omega
 have hstep : (xs.take (j + 1)).foldl (stepV e0.act.to v) (q, F) = (addV q1 wn, F2) := by
  rw [foldl_take2 _ _ hjl, <- hfold, hx, <- hF2, <- hwn]
  rfl
 have hwo : VsOk g wn := hwn ▸ nxtV_ok hB hvo hxe
 refine z_l [(20, .sv (.one (.bx (encPc wn)))), (19, .sv (.one (.bx (encEd x)))), (109, .sv (.one (.int .i64 j))), (108, .sv (.one (.int .i64 xs.length))), (107, .sv (.one (.sl (xs.map encEd)))), (17, .sv (.one (.bx (encPc v)))), (16, .sv (.one (.int .i64 i))), (15, .sv (.one (.ow 3 (F2.map encFd)))), (14, .sv (.one (.ow 7 (zs1.map encVz)))), (13, .sv (.one (.mp (metP q1)))), (11, .sv (.one (.int .i64 pn))), (6, .sv (.one (.sl (rowsY S fun s => outE g s)))), (5, .sv (.one (.int .i64 0))), (4, .sv (.one .nil)), (2, .sv (.one (.bx (encG g)))), (1, .sv (.one (.int .i64 kn)))] ?_ ?_
 ·obtain ⟨fa, hfa⟩ : ∃ n : Nat, x.act.from_ = n := ⟨x.act.from_.toNat, by omega⟩
  obtain ⟨ta, hta⟩ : ∃ n : Nat, x.act.to = n := ⟨x.act.to.toNat, by omega⟩
  have hf6 : fa < 6 := by omega
  have ht6 : ta < 6 := by omega
  have hxe2 : encEd x = [.int .i64 x.from_, .int .i64 fa, .int .i64 ta, .int .i64 x.act.label, .int .i64 x.to, .bool x.again] := by
   unfold encEd
   rw [hfa, hta]
  have hbv := bitX hvo.bl hf6
  have hsv := bitX hvo.sn hf6
  have hbo := orX hvo.bl ht6
  have hso := orX hvo.sn hf6
  simp [go_sem] at hbv hsv hbo hso
  unfold nxtV isNew at hwn
  unfold isNew at hF2
  rw [hfa, hta, hpn] at hwn
  rw [hfa, hta, hpn] at hF2
  refine z_C ?_
  cases hB1 : hasB v.bl (fa : Int) with
  | true =>
    rw [hB1] at hbv hwn hF2
    simp only [if_true, Bool.not_true, Bool.false_and, Bool.false_eq_true, if_false] at hbv hwn hF2
    subst hF2
    refine wX (aN hxe2 <| aN encPc.eq_1 <| aN hbv hbo) ?_
    refine z_m ?_
    simp [go_sem, encPc, hxe2, hbo, <- hwn]
  | false =>
    rw [hB1] at hbv hwn hF2
    simp only [Bool.false_eq_true, if_false, Bool.not_false, Bool.true_and] at hbv hwn hF2
    by_cases htp : (ta : Int) = pn
    rotate_left
    ·have htb : ((ta : Int) == pn) = false := by simpa using htp
     rw [htb] at hwn hF2
     simp only [Bool.false_and, Bool.false_eq_true, if_false] at hwn hF2
     subst hF2
     refine wX (aN hxe2 <| aN encPc.eq_1 <| aN hbv <| aN htp htb) ?_
     refine z_m ?_
     simp [go_sem, encPc, hxe2, <- hwn]
    have htb : ((ta : Int) == pn) = true := by simpa using htp
    cases hS1 : hasB v.sn (fa : Int) with
    | true =>
      rw [hS1] at hsv hwn hF2
      rw [htb] at hwn hF2
      simp only [if_true, Bool.not_true, Bool.and_false, Bool.false_eq_true, if_false] at hsv hwn hF2
      subst hF2
      refine wX (aN hxe2 <| aN encPc.eq_1 <| aN hbv <| aN htp <| aN htb hsv) ?_
      refine z_m ?_
      simp [go_sem, encPc, hxe2, <- hwn, htp]
    | false =>
      rw [hS1] at hsv hwn hF2
      rw [htb] at hwn hF2
      simp only [Bool.not_false, Bool.true_and, Bool.and_true, if_true, Bool.false_eq_true, if_false] at hsv hwn hF2
      have hmf : msgF (fndV v x) = ⟨fa, x.act.label⟩ := by
       unfold msgF fndV
       rw [hfa]
      have k46 := f46 F1 47 [.rf (encMs ⟨fa, x.act.label⟩)] (isM ⟨fa, x.act.label⟩) (by omega) fun y _ => f47 y ⟨fa, x.act.label⟩
      rw [<- hmf, any_isM, hmf] at k46
      simp only [encMs] at k46
      unfold noteF at hF2
      cases hA : F1.any (sameM (fndV v x)) with
      | true =>
        rw [hA] at k46 hF2
        simp only [if_true] at hF2
        subst hF2
        refine wV (aN hxe2 <| aN encPc.eq_1 <| aN hbv <| aN htp <| aN htb <| aN hsv hso) k46 ?_
        refine z_m ?_
        simp [go_sem, encPc, hxe2, hso, <- hwn, htp]
      | false =>
        rw [hA] at k46 hF2
        simp only [Bool.false_eq_true, if_false] at hF2
        refine wV (aN hxe2 <| aN encPc.eq_1 <| aN hbv <| aN htp <| aN htb <| aN hsv hso) k46 ?_
        refine z_k (fun n e => ∃ (P : List Inter) (u : Vs), q1[n]? = some u /\ P ++ u.path.reverse = (v.path ++ [x.act]).reverse /\ P.length + n <= i + 1 /\ e = [(23, .sv (.one (.int .i64 n))), (22, .sv (.one (.ow 3 (P.map encI)))), (21, .sv (.one (.rf [.int .i64 fa, .int .i64 x.act.label]))), (20, .sv (.one (.bx [.int .i64 x.to, .int .u8 v.bl, .int .u8 (setB v.sn fa : Nat)]))), (19, .sv (.one (.bx (encEd x)))), (109, .sv (.one (.int .i64 j))), (108, .sv (.one (.int .i64 xs.length))), (107, .sv (.one (.sl (xs.map encEd)))), (17, .sv (.one (.bx (encPc v)))), (16, .sv (.one (.int .i64 i))), (15, .sv (.one (.ow 3 (F1.map encFd)))), (14, .sv (.one (.ow 7 (zs1.map encVz)))), (13, .sv (.one (.mp (metP q1)))), (11, .sv (.one (.int .i64 pn))), (6, .sv (.one (.sl (rowsY S fun s => outE g s)))), (5, .sv (.one (.int .i64 0))), (4, .sv (.one .nil)), (2, .sv (.one (.bx (encG g)))), (1, .sv (.one (.int .i64 kn)))]) i _ ⟨[x.act], v, hvq1, by simp, by simp; omega, rfl⟩ (by simp [go_sem, encPc, hxe2, hso, encI, hfa, hta, htp]) ?_
        rintro n e ⟨P, u, hun, hP, hPl, rfl⟩
        have hnq := (List.getElem?_eq_some_iff.1 hun).1
        obtain ⟨z', u', hz', hu', _, _, _, hch⟩ := hrq1.at_ n hnq
        rw [hun] at hu'
        obtain rfl := Option.some.inj hu'
        have hnz : n < zs1.length := by omega
        have hzn : zs1[n] = z' := by
         rw [List.getElem?_eq_getElem hnz] at hz'
         exact Option.some.inj hz'
        rcases hch with ⟨hah, hup⟩ | ⟨hah, han, u2, hu2, hup⟩
        ·have hah2 : ¬ (0 <= z'.ah) := by omega
         rw [hup, List.reverse_nil, List.append_nil] at hP
         have k48 := f48 P (by omega)
         have hPr : P.reverse = v.path ++ [x.act] := by rw [hP, List.reverse_reverse]
         rw [hPr] at k48
         have hap := appendOk_fd (l := F1) (x := fndV v x) (by omega)
         obtain ⟨P1, hP1⟩ : ∃ P1, v.path ++ [x.act] = P1 := ⟨_, rfl⟩
         have hfc : encFd (fndV v x) = [.int .i64 fa, .int .i64 x.act.label, .sl (P1.map encI)] := by
          unfold encFd fndV
          simp only [hfa, hP1]
         have hfi : ∀ y : Inter, frzL (encI y) = encI y := fun _ => rfl
         rw [hP1] at k48
         rw [hfc] at hap
         refine loopQ_gen fun Q0 hQ0 => ?_
         refine wX (aN hnz <| aN hzn <| aN encVz.eq_1 hah2) ?_
         refine hQ0 _ _ (z_P (z_K ?_))
         refine z_l [(22, .sv (.one (.sl (P1.map encI)))), (21, .sv (.one (.rf ([.int .i64 fa, .int .i64 x.act.label])))), (20, .sv (.one (.bx ([.int .i64 x.to, .int .u8 v.bl, .int .u8 (setB v.sn fa : Nat)])))), (19, .sv (.one (.bx (encEd x)))), (109, .sv (.one (.int .i64 j))), (108, .sv (.one (.int .i64 xs.length))), (107, .sv (.one (.sl (xs.map encEd)))), (17, .sv (.one (.bx (encPc v)))), (16, .sv (.one (.int .i64 i))), (15, .sv (.one (.ow 3 (F1.map encFd)))), (14, .sv (.one (.ow 7 (zs1.map encVz)))), (13, .sv (.one (.mp (metP q1)))), (11, .sv (.one (.int .i64 pn))), (6, .sv (.one (.sl (rowsY S fun s => outE g s)))), (5, .sv (.one (.int .i64 0))), (4, .sv (.one .nil)), (2, .sv (.one (.bx (encG g)))), (1, .sv (.one (.int .i64 kn)))] ?_ ?_
         ·refine wC k48 ?_
          refine cutQ_all 22 ?_
          simp [go_sem, hfi]
         refine wX (aN hap <| aN hfi encI.eq_1) ?_
         refine z_m ?_
         simp [go_sem, encPc, hxe2, hso, <- hwn, <- hF2, hfc, htp]
        ·obtain ⟨a, ha⟩ : ∃ a : Nat, z'.ah = a := ⟨z'.ah.toNat, by omega⟩
         have hap := okI_of (els := P.map encI) (news := [encI z'.act]) (fun e he => ⟨z'.act, List.mem_singleton.1 he⟩) (by simp; omega)
         simp only [encI] at hap
         refine wX (aN hnz <| aN hzn <| aN encVz.eq_1 <| aN ha hap) ?_
         refine z_j a _ (by omega) ⟨P ++ [z'.act], u2, by rw [ha] at hu2; simpa using hu2, by rw [<- hP, hup]; simp, by simp; omega, rfl⟩ ?_
         simp [go_sem, encI]
 have hko := keyOkP wn q1
 have hwp : wn.path = v.path ++ [x.act] := by
  rw [<- hwn]
  unfold nxtV
  split
  ·rfl
  ·split <;> rfl
 cases hany : q1.any (sameV wn) with
 | true =>
   have hget := metP_some hany
   have hadd : addV q1 wn = q1 := by unfold addV; rw [hany]; rfl
   rw [hadd] at hstep
   simp only [keyP] at hko hget
   refine wX (aN encPc.eq_1 <| aN hko hget) ?_
   refine z_j (w - 1) _ (by omega) ⟨j + 1, q1, F2, zs1, by omega, hstep.symm, ⟨hqo1, hrq1, hvq1, by omega⟩, rfl⟩ ?_
   simp [go_sem, encPc]
 | false =>
   obtain ⟨hget, hset⟩ := metP_none hany
   have hadd : addV q1 wn = q1 ++ [wn] := by unfold addV; rw [hany]; rfl
   have hqn := addV_ok hqo1 hwo
   rw [hadd] at hstep hqn
   simp only [keyP] at hko hget hset
   have hap := appendOk_vz (l := zs1) (x := vzOf wn i x.act) (by omega)
   simp only [encVz, vzOf] at hap
   refine wX (aN encPc.eq_1 <| aN encEd.eq_1 <| aN hko <| aN hget <| aN hset hap) ?_
   refine z_j (w - 1) _ (by omega) ⟨j + 1, q1 ++ [wn], F2, zs1 ++ [vzOf wn i x.act], by omega, hstep.symm, ⟨hqn, relQ_snoc hrq1 hvq1 hwp, by rw [List.getElem?_append_left hiq1]; exact hvq1, by omega⟩, rfl⟩ ?_
   simp [go_sem, encPc, encVz, vzOf]
end Go.Av
