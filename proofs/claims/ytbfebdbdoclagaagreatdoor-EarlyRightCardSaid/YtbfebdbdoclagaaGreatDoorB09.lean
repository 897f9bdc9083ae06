/- The reference: search. -/
import Derived.Test.YtbfebdbdoclagaaGreatDoorAvR
import Derived.Test.YtbfebdbdoclagaaGreatDoorB08
set_option linter.unusedVariables false
set_option linter.unusedSimpArgs false
set_option maxHeartbeats 64000000
set_option maxRecDepth 8000
namespace Go.Av
open Go Go.RowKit Go.Proofs
set_option maxHeartbeats 64000000
def seenL (N : Nat) (c : List Nat) : List (List DV) := (List.range N).map fun n => [DV.bool (c.contains n)]
theorem seenL_len (N : Nat) (c : List Nat) : (seenL N c).length = N := by simp [seenL]
theorem seenL_at {N n : Nat} (h : n < N) (c : List Nat) : (seenL N c)[n]? = some [DV.bool (c.contains n)] := by simp [seenL, h]
theorem seenL_get {N n : Nat} (h : n < N) (c : List Nat) : (seenL N c)[n]'(by rw [seenL_len]; exact h) = [DV.bool (c.contains n)] := by simp [seenL]
theorem seenL_nil (N : Nat) : seenL N [] = List.replicate N [.bool false] := by
 apply List.ext_getElem?
 intro i
 by_cases h : i < N
 ·rw [seenL_at h, List.getElem?_replicate, if_pos h]
  rfl
 ·rw [List.getElem?_eq_none (by rw [seenL_len]; omega), List.getElem?_eq_none (by simp; omega)]
theorem seenL_set {N n : Nat} (h : n < N) (c : List Nat) : (seenL N c).set n [.bool true] = seenL N (c ++ [n]) := by
 apply List.ext_getElem?
 intro i
 rw [List.getElem?_set, seenL_len]
 by_cases hi : n = i
 ·subst hi
  rw [if_pos rfl, if_pos h, seenL_at h]
  simp
 ·rw [if_neg hi]
  by_cases hl : i < N
  ·rw [seenL_at hl, seenL_at hl]
   have : (c ++ [n]).contains i = c.contains i := by
    rw [Bool.eq_iff_iff]
    simp only [List.contains_iff_mem, List.mem_append, List.mem_singleton]
    constructor
    ·rintro (h | h)
     ·exact h
     ·exact absurd h.symm hi
    ·exact .inl
   rw [this]
  ·rw [List.getElem?_eq_none (by rw [seenL_len]; omega), List.getElem?_eq_none (by rw [seenL_len]; omega)]
theorem bitG : ∀ n : Fin 64, ∀ r : Fin 6, IntKind.i64.wrap (((BitVec.ofInt 64 ((n.val : Int).fdiv (2 ^ min r.val 64)) &&& 1#64).toNat : Nat) : Int) = if hasB n.val (r.val : Int) then 1 else 0 := by decide +kernel
theorem bitY {n r : Nat} (hn : n < 64) (hr : r < 6) : IntKind.i64.wrap (((BitVec.ofInt IntKind.i64.bits (Int.fdiv (n : Int) (2 ^ min (Int.toNat (r : Int)) IntKind.i64.bits)) &&& BitVec.ofInt IntKind.i64.bits 1).toNat : Nat) : Int) = if hasB n (r : Int) then 1 else 0 := bitG ⟨n, hn⟩ ⟨r, hr⟩
theorem orY {n r : Nat} (hn : n < 64) (hr : r < 6) : IntKind.i64.wrap (((BitVec.ofInt IntKind.i64.bits (n : Int) ||| BitVec.ofInt IntKind.i64.bits (IntKind.i64.wrap (1 * 2 ^ min (Int.toNat (r : Int)) IntKind.i64.bits))).toNat : Nat) : Int) = (setB n (r : Int) : Nat) := or64 ⟨n, hn⟩ ⟨r, hr⟩
theorem sh64 : ∀ r : Fin 6, IntKind.i64.wrap (1 * 2 ^ min r.val 64) = (setB 0 (r.val : Int) : Nat) := by decide +kernel
theorem shY {r : Nat} (hr : r < 6) : IntKind.i64.wrap (1 * 2 ^ min (Int.toNat (r : Int)) IntKind.i64.bits) = (setB 0 (r : Int) : Nat) := sh64 ⟨r, hr⟩
theorem shl12 {s : Nat} (h : s <= 1000) : IntKind.i64.wrap ((s : Int) * 2 ^ min (Int.toNat 12) IntKind.i64.bits) = ((s * 4096 : Nat) : Int) := by
 have : ((s : Int) * 2 ^ min (Int.toNat 12) IntKind.i64.bits) = ((s * 4096 : Nat) : Int) := by
  rw [show min (Int.toNat 12) IntKind.i64.bits = 12 from rfl, show (2 : Int) ^ 12 = 4096 from by decide]
  omega
 rw [this]
 exact z_h (by omega) (by omega)
theorem appendOk_pl {l : List Vs} {x : Vs} (h : l.length <= 100000000) : z_f 4 48 (l.map encPl) [encPl x] := by
 refine ⟨?_, ?_, by omega, ?_, ?_⟩
 ·intro e he
  rw [List.mem_singleton.1 he]
  rcases pathD_cases x.path with h | ⟨L, h⟩ <;> simp [encPl, DV.flat, h]
 ·intro e he; rw [List.mem_singleton.1 he]; rfl
 ·simp only [List.length_map, List.length_singleton, maxLen]; omega
 ·simp only [List.length_map, List.length_singleton]; omega
theorem codeV_lt {g : Glob} {v : Vs} (hv : VsOk g v) {S : Nat} (hS : g.states = S) : codeV v < S * 4096 := by
 obtain ⟨h1, h2, h3, h4⟩ := hv
 unfold codeV
 omega
theorem f39 (g : Glob) (kn : Nat) (hs : Small g) (hB : EdB g) (hk1 : kn < g.edges.length) {e0 : Edg} (he0 : g.edges[kn] = e0) :
  Impl Tryz.prog 39 [.ag (encG g), .one (.int .i64 kn)] (.one (.one (.ow 3 ((searchV g e0).map encFd)))) := by
 have hel := hs.edges
 have k60 := fun s => f60 g s hs
 simp only [encG] at k60
 have he0m : e0 ∈ g.edges := he0 ▸ List.getElem_mem hk1
 obtain ⟨a1, a2, a3, a4, a5, a6, a7, a8, a9⟩ := hB.edge e0 he0m
 have hst := hB.states
 obtain ⟨S, hS⟩ : ∃ S : Nat, g.states = S := ⟨g.states.toNat, by omega⟩
 have hS2 : S <= 200 := by omega
 obtain ⟨pn, hpn⟩ : ∃ p : Nat, e0.act.to = p := ⟨e0.act.to.toNat, by omega⟩
 have hp6 : pn < 6 := by omega
 obtain ⟨R, hR⟩ : ∃ R, searchV g e0 = R := ⟨_, rfl⟩
 rw [hR]
 unfold searchV at hR
 refine impl_v ?_
 refine z_l [(4, .sv (.one .nil)), (2, .sv (.one (.bx (encG g)))), (1, .sv (.one (.int .i64 kn)))] ?_ ?_
 ·refine wX encG.eq_1 ?_
  refine z_m ?_
  simp [go_sem, encG]
 refine z_l [(5, .sv (.one (.int .i64 pn))), (4, .sv (.one .nil)), (2, .sv (.one (.bx (encG g)))), (1, .sv (.one (.int .i64 kn)))] ?_ ?_
 ·refine wX (aN hk1 <| aN he0 <| aN hpn <| aN encEd.eq_1 encG.eq_1) ?_
  refine z_m ?_
  simp [go_sem, encG]
 have hsh := shY hp6
 simp [go_sem] at hsh
 refine z_l [(6, .sv (.one (.ow 4 ([firstV e0].map encPl)))), (5, .sv (.one (.int .i64 pn))), (4, .sv (.one .nil)), (2, .sv (.one (.bx (encG g))))] ?_ ?_
 ·refine wX (aN hk1 <| aN he0 <| aN encEd.eq_1 <| aN encG.eq_1 hsh) ?_
  refine z_m ?_
  simp [go_sem, encG, encPl, firstV, pathD, hsh, hpn]
 have hs12 := shl12 (s := S) (by omega)
 simp [go_sem] at hs12
 have h40 : ((S : Int) * 4096).toNat = S * 4096 := by omega
 refine z_l [(7, .sv (.one (.ow 1 (seenL (S * 4096) [])))), (6, .sv (.one (.ow 4 ([firstV e0].map encPl)))), (5, .sv (.one (.int .i64 pn))), (4, .sv (.one .nil)), (2, .sv (.one (.bx (encG g))))] ?_ ?_
 ·refine wX (aN encG.eq_1 <| aN hS hs12) ?_
  refine z_m ?_
  simp [go_sem, encG, seenL_nil, hS, h40]
 have hq0 : QOk g [firstV e0] := ⟨fun v hv => by
  rw [List.mem_singleton.1 hv]
  exact ⟨a3, a4, setB_lt (by decide) a7 a8, by simp [firstV]⟩, by simp⟩
 have hv0 := hq0.ok (firstV e0) (by simp)
 have hsq0 : ShortQ [firstV e0] := by
  intro k hk
  simp only [List.length_singleton] at hk
  have : k = 0 := by omega
  subst this
  simp [firstV]
 have k59 := f59 (firstV e0) hv0.st0 (by have := hv0.st1; omega) hv0.bl hv0.sn
 have hc0 := codeV_lt hv0 hS
 obtain ⟨cd, hcd⟩ : ∃ c, codeV (firstV e0) = c := ⟨_, rfl⟩
 rw [hcd] at k59 hc0
 have e1 := seenL_at hc0 []
 have e2 := seenL_get hc0 []
 have e3 := seenL_set hc0 []
 have e4 := seenL_len (S * 4096) []
 rw [List.nil_append] at e3
 simp only [encPl, firstV, pathD] at k59
 refine z_l [(7, .sv (.one (.ow 1 (seenL (S * 4096) [cd])))), (6, .sv (.one (.ow 4 ([firstV e0].map encPl)))), (5, .sv (.one (.int .i64 pn))), (4, .sv (.one .nil)), (2, .sv (.one (.bx (encG g))))] ?_ ?_
 ·refine wV (aN encPl.eq_1 <| aN firstV.eq_1 <| aN pathD.eq_1 <| aN pathD.eq_2 <| aN hc0 <| aN e1 <| aN e2 <| aN e3 e4) k59 ?_
  refine z_m ?_
  simp [go_sem, encG, encPl, firstV, pathD, e3]
 refine z_l [(8, .sv (.one .nil)), (7, .sv (.one (.ow 1 (seenL (S * 4096) [cd])))), (6, .sv (.one (.ow 4 ([firstV e0].map encPl)))), (5, .sv (.one (.int .i64 pn))), (4, .sv (.one .nil)), (2, .sv (.one (.bx (encG g))))] ?_ ?_
 ·refine wN ?_
  refine z_m ?_
  simp [go_sem]
 refine wN ?_
 refine z_k (fun fu e => ∃ (i : Nat) (q : List Vs) (F : List Fnd), bfsV g e0.act.to fu i (q, F) = R /\ fu + i = 1000000 /\ (i <= q.length /\ QOk g q /\ F.length <= 1000 * i /\ ShortQ q) /\ e = [(9, .sv (.one (.int .i64 i))), (8, .sv (.one (.ow 3 (F.map encFd)))), (7, .sv (.one (.ow 1 (seenL (S * 4096) (q.map codeV))))), (6, .sv (.one (.ow 4 (q.map encPl)))), (5, .sv (.one (.int .i64 pn))), (4, .sv (.one .nil)), (2, .sv (.one (.bx (encG g))))]) 1000000 _ ⟨0, [firstV e0], [], hR, rfl, ⟨by simp, hq0, by simp, hsq0⟩, rfl⟩ (by simp [go_sem, encG, hcd]) ?_
 rintro fu e ⟨i, q, F, hfi, hfu, ⟨hiq, hqo, hFl, hsq⟩, rfl⟩
 have hql := queue_len hB hqo
 by_cases hlt : i < q.length
 rotate_left
 ·have hni : q[i]? = none := List.getElem?_eq_none (by omega)
  have hR' : F = R := by
   rw [<- hfi]
   cases fu with
   | zero => rfl
   | succ fu => simp only [bfsV, hni]
  subst hR'
  refine wX hlt ?_
  simp [go_sem]
 obtain ⟨m, rfl⟩ : ∃ m, fu = m + 1 := ⟨fu - 1, by omega⟩
 obtain ⟨v, hv⟩ : ∃ v, q[i] = v := ⟨_, rfl⟩
 have hvq : q[i]? = some v := by rw [List.getElem?_eq_getElem hlt, hv]
 have hvo := hqo.ok v (List.mem_of_getElem? hvq)
 simp only [bfsV, hvq] at hfi
 refine z_l [(9, .sv (.one (.int .i64 i))), (8, .sv (.one (.ow 3 (F.map encFd)))), (7, .sv (.one (.ow 1 (seenL (S * 4096) (q.map codeV))))), (6, .sv (.one (.ow 4 (q.map encPl)))), (5, .sv (.one (.int .i64 pn))), (4, .sv (.one .nil)), (2, .sv (.one (.bx (encG g))))] ?_ ?_
 ·refine wX hlt ?_
  refine z_m ?_
  simp [go_sem]
 refine z_A ?_
 refine z_C ?_
 have hsm := sortN_map g v.st
 have hsl := sortN_len g.edges v.st
 have hslt := sortN_lt (es := g.edges) (s := v.st)
 obtain ⟨xs, hxs⟩ : ∃ xs, outE g v.st = xs := ⟨_, rfl⟩
 obtain ⟨L, hL⟩ : ∃ L, sortN g.edges v.st = L := ⟨_, rfl⟩
 have k60v := k60 v.st
 rw [hL] at hsm hsl hslt k60v
 rw [hxs] at hsm hfi
 have hxm : ∀ x ∈ xs, x ∈ g.edges /\ x.from_ = v.st := fun x hx => outE_mem.1 (hxs ▸ hx)
 have hxl : xs.length = L.length := by rw [<- hsm, List.length_map]
 refine z_l [(10, .sv (.one (.ow 1 (L.map encK)))), (9, .sv (.one (.int .i64 i))), (8, .sv (.one (.ow 3 (F.map encFd)))), (7, .sv (.one (.ow 1 (seenL (S * 4096) (q.map codeV))))), (6, .sv (.one (.ow 4 (q.map encPl)))), (5, .sv (.one (.int .i64 pn))), (4, .sv (.one .nil)), (2, .sv (.one (.bx (encG g))))] ?_ ?_
 ·refine wV (aN hlt <| aN hv <| aN encPl.eq_1 encG.eq_1) k60v ?_
  refine z_m ?_
  simp [go_sem, encG]
 refine wN ?_
 refine z_k (fun w e => ∃ (j : Nat) (q1 : List Vs) (F1 : List Fnd), j + w = L.length /\ (q1, F1) = (xs.take j).foldl (stepV e0.act.to v) (q, F) /\ (QOk g q1 /\ q1[i]? = some v /\ F1.length <= 1000 * i + j /\ ShortQ q1) /\ e = [(11, .sv (.one (.int .i64 j))), (10, .sv (.one (.ow 1 (L.map encK)))), (9, .sv (.one (.int .i64 i))), (8, .sv (.one (.ow 3 (F1.map encFd)))), (7, .sv (.one (.ow 1 (seenL (S * 4096) (q1.map codeV))))), (6, .sv (.one (.ow 4 (q1.map encPl)))), (5, .sv (.one (.int .i64 pn))), (4, .sv (.one .nil)), (2, .sv (.one (.bx (encG g))))]) L.length _ ⟨0, q, F, by simp, rfl, ⟨hqo, hvq, by omega, hsq⟩, rfl⟩ (by simp [go_sem, encG]) ?_
 rintro w e ⟨j, q1, F1, hj, hfold, ⟨hqo1, hvq1, hFl1, hsq1⟩, rfl⟩
 have hql1 := queue_len hB hqo1
 have hiq1 := (List.getElem?_eq_some_iff.1 hvq1).1
 have hvi : q1[i] = v := by
  rw [List.getElem?_eq_getElem hiq1] at hvq1
  exact Option.some.inj hvq1
 by_cases hjl : j < L.length
 rotate_left
 ·have hkj : xs.take j = xs := List.take_of_length_le (by omega)
  rw [hkj] at hfold
  rw [<- hfold] at hfi
  refine wX hjl ?_
  refine z_j m _ (by omega) ⟨i + 1, q1, F1, hfi, by omega, ⟨by omega, hqo1, by omega, hsq1⟩, rfl⟩ ?_
  simp [go_sem, encG]
 have hjx : j < xs.length := by omega
 obtain ⟨nx, hnx⟩ : ∃ n, L[j] = n := ⟨_, rfl⟩
 have hnl : nx < g.edges.length := hnx ▸ hslt _ (List.getElem_mem hjl)
 obtain ⟨x, hx⟩ : ∃ x, g.edges[nx] = x := ⟨_, rfl⟩
 have hxj : xs[j] = x := by
  have : xs[j]? = some x := by
   rw [<- hsm, List.getElem?_map, List.getElem?_eq_getElem hjl, hnx]
   simp [List.getD_eq_getElem?_getD, List.getElem?_eq_getElem hnl, hx]
  rw [List.getElem?_eq_getElem hjx] at this
  exact Option.some.inj this
 obtain ⟨hxe, hxf⟩ := hxm x (hxj ▸ List.getElem_mem hjx)
 obtain ⟨b1, b2, b3, b4, b5, b6, b7, b8, b9⟩ := hB.edge x hxe
 refine z_l [(11, .sv (.one (.int .i64 j))), (10, .sv (.one (.ow 1 (L.map encK)))), (9, .sv (.one (.int .i64 i))), (8, .sv (.one (.ow 3 (F1.map encFd)))), (7, .sv (.one (.ow 1 (seenL (S * 4096) (q1.map codeV))))), (6, .sv (.one (.ow 4 (q1.map encPl)))), (5, .sv (.one (.int .i64 pn))), (4, .sv (.one .nil)), (2, .sv (.one (.bx (encG g))))] ?_ ?_
 ·refine wX hjl ?_
  refine z_m ?_
  simp [go_sem]
 refine z_A ?_
 refine z_C ?_
 refine z_l [(12, .sv (.one (.bx (encEd x)))), (11, .sv (.one (.int .i64 j))), (10, .sv (.one (.ow 1 (L.map encK)))), (9, .sv (.one (.int .i64 i))), (8, .sv (.one (.ow 3 (F1.map encFd)))), (7, .sv (.one (.ow 1 (seenL (S * 4096) (q1.map codeV))))), (6, .sv (.one (.ow 4 (q1.map encPl)))), (5, .sv (.one (.int .i64 pn))), (4, .sv (.one .nil)), (2, .sv (.one (.bx (encG g))))] ?_ ?_
 ·refine wX (aN hjl <| aN hnx <| aN hnl <| aN hx <| aN encEd.eq_1 <| aN encG.eq_1 encK.eq_1) ?_
  refine z_m ?_
  simp [go_sem, encG, encEd]
 have hvp : v.path.length <= i := hvi ▸ hsq1 i hiq1
 obtain ⟨P1, hP1⟩ : ∃ P1, v.path ++ [x.act] = P1 := ⟨_, rfl⟩
 refine z_l [(13, .sv (.one (.bx ([.int .i64 x.to, .int .i64 v.bl, .int .i64 v.sn, .sl (P1.map encI)])))), (12, .sv (.one (.bx (encEd x)))), (11, .sv (.one (.int .i64 j))), (10, .sv (.one (.ow 1 (L.map encK)))), (9, .sv (.one (.int .i64 i))), (8, .sv (.one (.ow 3 (F1.map encFd)))), (7, .sv (.one (.ow 1 (seenL (S * 4096) (q1.map codeV))))), (6, .sv (.one (.ow 4 (q1.map encPl)))), (5, .sv (.one (.int .i64 pn))), (4, .sv (.one .nil)), (2, .sv (.one (.bx (encG g))))] ?_ ?_
 ·have hap := okI_of (els := v.path.map encI) (news := [encI x.act]) (fun e he => ⟨x.act, List.mem_singleton.1 he⟩) (by simp; omega)
  have hap2 := okI_of (els := []) (news := v.path.map encI) (fun e he => by obtain ⟨y, _, h⟩ := List.mem_map.1 he; exact ⟨y, h.symm⟩) (by simp; omega)
  have hfi : ∀ y : Inter, frzL (encI y) = encI y := fun _ => rfl
  cases hp : v.path with
  | nil =>
    have hve : encPl v = [.int .i64 v.st, .int .i64 v.bl, .int .i64 v.sn, .nil] := by unfold encPl; rw [hp]; rfl
    rw [hp] at hP1 hap hap2
    simp only [encI, List.map_nil] at hap hap2
    refine wX (aN hiq1 <| aN hvi <| aN hve <| aN encEd.eq_1 <| aN hap hap2) ?_
    refine cutQ_frz 13 ?_
    simp [go_sem, encEd, <- hP1, hfi]
    try simp [encI]
  | cons a p =>
    have hve : encPl v = [.int .i64 v.st, .int .i64 v.bl, .int .i64 v.sn, .sl ((a :: p).map encI)] := by unfold encPl; rw [hp]; rfl
    rw [hp] at hP1 hap hap2
    have hap : z_f 3 24 (encI a :: List.map encI p) [[.int .i64 x.act.from_, .int .i64 x.act.to, .int .i64 x.act.label]] := hap
    have hap2 : z_f 3 24 [] (encI a :: List.map encI p) := hap2
    refine wX (aN hiq1 <| aN hvi <| aN hve <| aN encEd.eq_1 <| aN hap hap2) ?_
    refine cutQ_frz 13 ?_
    simp [go_sem, encEd, <- hP1, hfi]
    try simp [encI]
 obtain ⟨wn, hwn⟩ : ∃ wn, nxtV e0.act.to v x = wn := ⟨_, rfl⟩
 obtain ⟨F2, hF2⟩ : ∃ F2, (if isNew e0.act.to v x then noteF F1 (fndV v x) else F1) = F2 := ⟨_, rfl⟩
 have hF2l : F2.length <= F1.length + 1 := by
  rw [<- hF2]
  split
  ·exact noteF_len _ _
  ·omega
 have hstep : (xs.take (j + 1)).foldl (stepV e0.act.to v) (q, F) = (addV q1 wn, F2) := by
  rw [foldl_take2 _ _ hjx, <- hfold, hxj, <- hF2, <- hwn]
  rfl
 have hwo : VsOk g wn := hwn ▸ nxtV_ok hB hvo hxe
 have hwp : wn.path = P1 := by
  rw [<- hwn, <- hP1, nxtV_ref]
 have hP1l : P1.length <= i + 1 := by rw [<- hP1]; simp; omega
 have hpD : pathD P1 = .sl (P1.map encI) := by rw [<- hP1]; exact pathD_snoc _ _
 have hwe : encPl wn = [.int .i64 x.to, .int .i64 wn.bl, .int .i64 wn.sn, .sl (P1.map encI)] := by
  unfold encPl
  rw [hwp, hpD, <- hwn, nxt_st]
 have hwr := nxtV_ref e0.act.to v x
 rw [hwn] at hwr
 have hwbl : wn.bl = if hasB v.bl x.act.from_ then setB v.bl x.act.to else v.bl := by rw [hwr]
 have hwsn : wn.sn = if hasB v.bl x.act.from_ then v.sn else if x.act.to = e0.act.to then setB v.sn x.act.from_ else v.sn := by rw [hwr]
 refine z_l [(13, .sv (.one (.bx ([.int .i64 x.to, .int .i64 wn.bl, .int .i64 wn.sn, .sl (P1.map encI)])))), (12, .sv (.one (.bx (encEd x)))), (11, .sv (.one (.int .i64 j))), (10, .sv (.one (.ow 1 (L.map encK)))), (9, .sv (.one (.int .i64 i))), (8, .sv (.one (.ow 3 (F2.map encFd)))), (7, .sv (.one (.ow 1 (seenL (S * 4096) (q1.map codeV))))), (6, .sv (.one (.ow 4 (q1.map encPl)))), (5, .sv (.one (.int .i64 pn))), (4, .sv (.one .nil)), (2, .sv (.one (.bx (encG g))))] ?_ ?_
 ·obtain ⟨fa, hfa⟩ : ∃ n : Nat, x.act.from_ = n := ⟨x.act.from_.toNat, by omega⟩
  obtain ⟨ta, hta⟩ : ∃ n : Nat, x.act.to = n := ⟨x.act.to.toNat, by omega⟩
  have hf6 : fa < 6 := by omega
  have ht6 : ta < 6 := by omega
  have hxe2 : encEd x = [.int .i64 x.from_, .int .i64 fa, .int .i64 ta, .int .i64 x.act.label, .int .i64 x.to, .bool x.again] := by
   unfold encEd
   rw [hfa, hta]
  have hbv := bitY hvo.bl hf6
  have hsv := bitY hvo.sn hf6
  have hbo := orY hvo.bl ht6
  have hso := orY hvo.sn hf6
  simp [go_sem] at hbv hsv hbo hso
  unfold isNew at hF2
  rw [hfa, hta, hpn] at hF2
  rw [hfa, hta] at hwbl
  rw [hfa, hta, hpn] at hwsn
  cases hB1 : hasB v.bl (fa : Int) with
  | true =>
    rw [hB1] at hbv hF2 hwbl hwsn
    simp only [if_true, Bool.not_true, Bool.false_and, Bool.false_eq_true, if_false] at hbv hF2 hwbl hwsn
    subst hF2
    rw [hwbl, hwsn]
    refine wX (aN hxe2 <| aN hbv hbo) ?_
    refine z_m ?_
    simp [go_sem, hxe2, hbo]
  | false =>
    rw [hB1] at hbv hF2 hwbl hwsn
    simp only [Bool.false_eq_true, if_false, Bool.not_false, Bool.true_and] at hbv hF2 hwbl hwsn
    rw [hwbl, hwsn]
    by_cases htp : (ta : Int) = pn
    rotate_left
    ·have htb : ((ta : Int) == pn) = false := by simpa using htp
     rw [if_neg htp]
     rw [htb] at hF2
     simp only [Bool.false_and, Bool.false_eq_true, if_false] at hF2
     subst hF2
     refine wX (aN hxe2 <| aN hbv <| aN htp htb) ?_
     refine z_m ?_
     simp [go_sem, hxe2]
    have htb : ((ta : Int) == pn) = true := by simpa using htp
    rw [if_pos htp]
    cases hS1 : hasB v.sn (fa : Int) with
    | true =>
      rw [hS1] at hsv hF2
      rw [htb] at hF2
      simp only [if_true, Bool.not_true, Bool.and_false, Bool.false_eq_true, if_false] at hsv hF2
      subst hF2
      refine wX (aN hxe2 <| aN hbv <| aN htp <| aN htb <| aN hsv hso) ?_
      refine z_m ?_
      simp [go_sem, hxe2, hso, htp]
    | false =>
      rw [hS1] at hsv hF2
      rw [htb] at hF2
      simp only [Bool.not_false, Bool.true_and, Bool.and_true, if_true, Bool.false_eq_true, if_false] at hsv hF2
      have hfc : encFd (fndV v x) = [.int .i64 fa, .int .i64 x.act.label, .sl (P1.map encI)] := by
       unfold encFd fndV
       rw [<- hP1, <- hfa]
      have k61 := f61 F1 (fndV v x) (by omega)
      rw [hF2] at k61
      rw [hfc] at k61
      refine wV (aN hxe2 <| aN hbv <| aN htp <| aN htb <| aN hsv hso) k61 ?_
      refine z_m ?_
      simp [go_sem, hxe2, hso, htp]
 have hcd := codeV_lt hwo hS
 have hw59 := f59 wn hwo.st0 (by have := hwo.st1; omega) hwo.bl hwo.sn
 rw [hwe] at hw59
 have hanyc := any_code hqo1.ok hwo
 have hcon : (q1.map codeV).contains (codeV wn) = q1.any (sameV wn) := by
  rw [hanyc, Bool.eq_iff_iff, List.contains_iff_mem, decide_eq_true_eq]
 obtain ⟨cw, hcw⟩ : ∃ c, codeV wn = c := ⟨_, rfl⟩
 rw [hcw] at hcd hw59 hcon
 have e1 := seenL_at hcd (q1.map codeV)
 have e2 := seenL_get hcd (q1.map codeV)
 have e3 := seenL_set hcd (q1.map codeV)
 have e4 := seenL_len (S * 4096) (q1.map codeV)
 have e5 := seenL_len (S * 4096) (q1.map codeV ++ [cw])
 rw [hcon] at e1 e2
 refine z_l [(14, .sv (.one (.int .i64 cw))), (13, .sv (.one (.bx ([.int .i64 x.to, .int .i64 wn.bl, .int .i64 wn.sn, .sl (P1.map encI)])))), (12, .sv (.one (.bx (encEd x)))), (11, .sv (.one (.int .i64 j))), (10, .sv (.one (.ow 1 (L.map encK)))), (9, .sv (.one (.int .i64 i))), (8, .sv (.one (.ow 3 (F2.map encFd)))), (7, .sv (.one (.ow 1 (seenL (S * 4096) (q1.map codeV))))), (6, .sv (.one (.ow 4 (q1.map encPl)))), (5, .sv (.one (.int .i64 pn))), (4, .sv (.one .nil)), (2, .sv (.one (.bx (encG g))))] ?_ ?_
 ·refine wC hw59 ?_
  refine z_m ?_
  simp [go_sem]
 cases hany : q1.any (sameV wn) with
 | true =>
   rw [hany] at e1 e2
   have hadd : addV q1 wn = q1 := by unfold addV; rw [hany]; rfl
   rw [hadd] at hstep
   refine wX (aN hcd <| aN e1 <| aN e2 e4) ?_
   refine z_j (w - 1) _ (by omega) ⟨j + 1, q1, F2, by omega, hstep.symm, ⟨hqo1, hvq1, by omega, hsq1⟩, rfl⟩ ?_
   simp [go_sem]
 | false =>
   rw [hany] at e1 e2
   have hadd : addV q1 wn = q1 ++ [wn] := by unfold addV; rw [hany]; rfl
   have hqn := addV_ok hqo1 hwo
   have hsn := addV_short hsq1 (w := wn) (by rw [hwp]; omega)
   rw [hadd] at hstep hqn hsn
   have hap := appendOk_pl (l := q1) (x := wn) (by omega)
   rw [hwe] at hap
   refine wX (aN hcd <| aN e1 <| aN e2 <| aN e3 <| aN e4 <| aN e5 hap) ?_
   refine z_j (w - 1) _ (by omega) ⟨j + 1, q1 ++ [wn], F2, by omega, hstep.symm, ⟨hqn, by rw [List.getElem?_append_left hiq1]; exact hvq1, by omega, hsn⟩, rfl⟩ ?_
   simp [go_sem, hwe, hcw]
end Go.Av
