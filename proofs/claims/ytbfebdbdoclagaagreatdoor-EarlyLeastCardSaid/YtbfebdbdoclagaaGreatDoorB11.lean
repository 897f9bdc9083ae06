/- The reference: Arrivals, good, Early, Path, Word. -/
import Derived.Test.YtbfebdbdoclagaaGreatDoorAvR
import Derived.Test.YtbfebdbdoclagaaGreatDoorB09
import Derived.Test.YtbfebdbdoclagaaGreatDoorB10
import Derived.Test.YtbfebdbdoclagaaGreatDoorB08
set_option linter.unusedVariables false
set_option linter.unusedSimpArgs false
set_option maxHeartbeats 64000000
set_option maxRecDepth 8000
namespace Go.Av
open Go Go.RowKit Go.Proofs
set_option maxHeartbeats 64000000
theorem f30 (g : Glob) (k : Int) (hs : Small g) : Impl Tryz.prog 30 [.ag (encG g), .one (.int .i64 k)] (.one (.one (.int .i64 (srchR g k).2))) := by
 have hel := hs.edges
 have k32 := f32 g hs
 rw [<- valid_eq] at k32
 have hr : (srchR g k).2 = if valid29 g then (if 0 <= k /\ k < g.edges.length then 0 else 2) else 1 := by
  unfold srchR
  cases valid29 g with
  | false => rfl
  | true =>
    rw [if_pos rfl, if_pos rfl]
    by_cases h : 0 <= k /\ k < g.edges.length
    ·rw [if_pos h, if_pos h.1, List.getElem?_eq_getElem (by omega)]
    ·rw [if_neg h]
     by_cases h0 : 0 <= k
     ·rw [if_pos h0, List.getElem?_eq_none (by omega)]
     ·rw [if_neg h0]
 rw [hr]
 generalize valid29 g = vb at *
 simp only [encG] at k32
 refine impl_v ?_
 cases vb with
 | false =>
   refine wV encG.eq_1 k32 ?_
   simp [go_sem]
 | true =>
   by_cases h0 : k < 0
   ·have h1 : ¬ (0 <= k /\ k < g.edges.length) := by omega
    refine wV (aN encG.eq_1 h0) k32 ?_
    simp [go_sem, h1]
   ·by_cases h2 : k < g.edges.length
    ·have h1 : 0 <= k /\ k < g.edges.length := by omega
     have h3 : ¬ (g.edges.length : Int) <= k := by omega
     refine wV (aN encG.eq_1 <| aN h0 h3) k32 ?_
     simp [go_sem, h1]
    ·have h1 : ¬ (0 <= k /\ k < g.edges.length) := by omega
     have h3 : (g.edges.length : Int) <= k := by omega
     refine wV (aN encG.eq_1 <| aN h0 h3) k32 ?_
     simp [go_sem, h1]
theorem ordF_lt (a b : Fnd) : (ordF a b < 0) ↔ (a.peer < b.peer \/ (a.peer = b.peer /\ a.label < b.label)) := ordM_lt _ _
theorem appendOk_fl {a b : List Fnd} (h : a.length + b.length <= 900000000) : z_f 3 40 (a.map encFd) (b.map encFd) := by
 refine ⟨?_, ?_, by omega, ?_, ?_⟩
 ·intro e he
  obtain ⟨x, _, rfl⟩ := List.mem_map.1 he
  rfl
 ·intro e he
  obtain ⟨x, _, rfl⟩ := List.mem_map.1 he
  rfl
 ·simp only [List.length_map, maxLen]; omega
 ·simp only [List.length_map]; omega
theorem f31 (g : Glob) (kn : Nat) (F : List Fnd) (k39 : Impl Tryz.prog 39 [.ag (encG g), .one (.int .i64 kn)] (.one (.one (.ow 3 (F.map encFd))))) (hF : F.length <= 850000000) :
  Impl Tryz.prog 31 [.ag (encG g), .one (.int .i64 kn)] (.one (.one (.ow 3 ((insL ordF F).map encFd)))) := by
 unfold insL
 simp only [encG] at k39
 refine impl_v ?_
 refine z_l [(4, .sv (.one .nil)), (2, .sv (.one (.bx (encG g)))), (1, .sv (.one (.int .i64 kn)))] ?_ ?_
 ·refine wX encG.eq_1 ?_
  refine z_m ?_
  simp [go_sem, encG]
 refine z_l [(5, .sv (.one (.ow 3 (([] : List Fnd).map encFd)))), (4, .sv (.one .nil)), (2, .sv (.one (.bx (encG g)))), (1, .sv (.one (.int .i64 kn)))] ?_ ?_
 ·refine wN ?_
  refine z_m ?_
  simp [go_sem, encG]
 refine z_l [(6, .sv (.one (.ow 3 (F.map encFd)))), (5, .sv (.one (.ow 3 (([] : List Fnd).map encFd)))), (4, .sv (.one .nil))] ?_ ?_
 ·refine wV encG.eq_1 k39 ?_
  refine z_m ?_
  simp [go_sem]
 refine wN ?_
 refine z_k (fun n e => ∃ (i : Nat) (A : List Fnd), i + n = F.length /\ (F.take i).foldl (insC ordF) [] = A /\ e = [(7, .sv (.one (.int .i64 i))), (6, .sv (.one (.ow 3 (F.map encFd)))), (5, .sv (.one (.ow 3 (A.map encFd)))), (4, .sv (.one .nil))]) F.length _ ⟨0, [], by simp, rfl, rfl⟩ (by simp [go_sem]) ?_
 rintro n e ⟨i, A, hi, hA, rfl⟩
 have hperm := insF_perm ordF (F.take i) []
 rw [hA, List.append_nil] at hperm
 have hAl : A.length <= i := by
  rw [hperm.length_eq, List.length_take]
  omega
 by_cases hlt : i < F.length
 rotate_left
 ·have hie : F.take i = F := List.take_of_length_le (by omega)
  rw [hie] at hA
  rw [hA]
  refine wX hlt ?_
  simp [go_sem]
 obtain ⟨x, hx⟩ : ∃ x, F[i] = x := ⟨_, rfl⟩
 have hst := foldl_take3 (insC ordF) [] hlt hx
 rw [hA] at hst
 refine wX hlt ?_
 refine z_k (fun q e => ∃ k : Nat, k + q = A.length /\ (∀ j (h : j < A.length), j < k -> ordF A[j] x < 0) /\ e = [(8, .sv (.one (.int .i64 k))), (7, .sv (.one (.int .i64 i))), (6, .sv (.one (.ow 3 (F.map encFd)))), (5, .sv (.one (.ow 3 (A.map encFd)))), (4, .sv (.one .nil))]) A.length _ ⟨0, by simp, by simp, rfl⟩ (by simp [go_sem]) ?_
 rintro q e ⟨k, hk, hbef, rfl⟩
 have hap1 := appendOk_fl (a := []) (b := A.take k) (by simp; omega)
 have hap2 := appendOk_fl (a := A.take k) (b := [x]) (by simp; omega)
 have hap3 := appendOk_fl (a := A.take k ++ [x]) (b := A.drop k) (by simp; omega)
 have htk : ((A.map encFd).drop k).take (A.length - k) = (A.map encFd).drop k := List.take_of_length_le (by simp)
 simp only [List.map_take, List.map_drop, List.map_append, List.map_cons, List.map_nil, encFd] at hap1 hap2 hap3
 by_cases hkl : k < A.length
 ·obtain ⟨y, hy⟩ : ∃ y, A[k] = y := ⟨_, rfl⟩
  have hlti := ordF_lt y x
  by_cases h1 : y.peer < x.peer
  ·have hc : ordF y x < 0 := hlti.2 (.inl h1)
   refine wX (aN hkl <| aN hy <| aN hlt <| aN hx <| aN encFd.eq_1 h1) ?_
   refine z_j (q - 1) _ (by omega) ⟨k + 1, by omega, ?_, rfl⟩ ?_
   ·intro j h hj
    by_cases e : j = k
    ·subst e
     rw [hy]
     exact hc
    ·exact hbef j h (by omega)
   ·simp [go_sem]
  ·by_cases h2 : y.peer = x.peer
   ·by_cases h3 : y.label < x.label
    ·have hc : ordF y x < 0 := hlti.2 (.inr ⟨h2, h3⟩)
     refine wX (aN hkl <| aN hy <| aN hlt <| aN hx <| aN encFd.eq_1 <| aN h1 <| aN h2 h3) ?_
     refine z_j (q - 1) _ (by omega) ⟨k + 1, by omega, ?_, rfl⟩ ?_
     ·intro j h hj
      by_cases e : j = k
      ·subst e
       rw [hy]
       exact hc
      ·exact hbef j h (by omega)
     ·simp [go_sem]
    ·have hc : ¬ ordF y x < 0 := fun h => by rcases hlti.1 h with h | h <;> omega
     have hins := insC_at k A (by omega) hbef fun _ => by rw [hy]; exact hc
     rw [hins] at hst
     refine wX (aN hkl <| aN hy <| aN hlt <| aN hx <| aN encFd.eq_1 <| aN h1 <| aN h2 <| aN h3 <| aN htk <| aN hap1 <| aN hap2 hap3) ?_
     refine z_j (n - 1) _ (by omega) ⟨i + 1, A.take k ++ x :: A.drop k, by omega, hst, rfl⟩ ?_
     simp [go_sem, encFd, htk]
   ·have hc : ¬ ordF y x < 0 := fun h => by rcases hlti.1 h with h | h <;> omega
    have hins := insC_at k A (by omega) hbef fun _ => by rw [hy]; exact hc
    rw [hins] at hst
    refine wX (aN hkl <| aN hy <| aN hlt <| aN hx <| aN encFd.eq_1 <| aN h1 <| aN h2 <| aN htk <| aN hap1 <| aN hap2 hap3) ?_
    refine z_j (n - 1) _ (by omega) ⟨i + 1, A.take k ++ x :: A.drop k, by omega, hst, rfl⟩ ?_
    simp [go_sem, encFd, htk]
 ·have hins := insC_at k A (by omega) hbef fun h => absurd h hkl
  rw [hins] at hst
  refine wX (aN hkl <| aN hlt <| aN hx <| aN encFd.eq_1 <| aN htk <| aN hap1 <| aN hap2 hap3) ?_
  refine z_j (n - 1) _ (by omega) ⟨i + 1, A.take k ++ x :: A.drop k, by omega, hst, rfl⟩ ?_
  simp [go_sem, encFd, htk]
theorem f39r (g : Glob) (k : Int) (hs : Small g) {L : List Fnd} (hr : (srchR g k).1 = some L) : ∃ kn : Nat, k = kn /\ L.length <= 819200000 /\ Impl Tryz.prog 39 [.ag (encG g), .one (.int .i64 kn)] (.one (.one (.ow 3 (L.map encFd)))) := by
 unfold srchR at hr
 cases hv : valid29 g with
 | false => rw [hv] at hr; cases hr
 | true =>
   rw [hv, if_pos rfl] at hr
   by_cases h0 : 0 <= k
   ·rw [if_pos h0] at hr
    by_cases h1 : k.toNat < g.edges.length
    ·rw [List.getElem?_eq_getElem h1] at hr
     have hB := edB_of hv
     have hL : searchV g g.edges[k.toNat] = L := Option.some.inj hr
     refine ⟨k.toNat, by omega, ?_, ?_⟩
     ·rw [<- hL]
      exact (search_short hB hs.edges (List.getElem_mem h1)).2
     ·rw [<- hL]
      exact f39 g k.toNat hs hB h1 rfl
    ·rw [List.getElem?_eq_none (by omega)] at hr
     cases hr
   ·rw [if_neg h0] at hr
    cases hr
theorem srch_err (g : Glob) (k : Int) : (srchR g k).1 = none ↔ (srchR g k).2 ≠ 0 := by
 unfold srchR
 cases valid29 g with
 | false => simp
 | true =>
   rw [if_pos rfl]
   split <;> simp
theorem f12 (g : Glob) (k : Int) (hs : Small g) : Impl Tryz.prog 12 [.ag (encG g), .one (.int .i64 k)] (.tup [.one (.ow 2 ((earlyL g k).map encMs)), .one (.int .i64 (srchR g k).2)]) := by
 have k30 := f30 g k hs
 have he := srch_err g k
 have hf := fun L (h : (srchR g k).1 = some L) => f39r g k hs (L := L) h
 unfold earlyL
 obtain ⟨⟨r, er⟩, hr⟩ : ∃ r, srchR g k = r := ⟨_, rfl⟩
 rw [hr] at k30 he hf ⊢
 dsimp only at k30 he hf ⊢
 simp only [encG] at k30
 refine impl_v ?_
 refine z_l [(5, .sv (.one (.int .i64 0))), (4, .sv (.one .nil)), (2, .sv (.one (.bx (encG g)))), (1, .sv (.one (.int .i64 k)))] ?_ ?_
 ·refine wX encG.eq_1 ?_
  refine z_m ?_
  simp [go_sem, encG]
 cases r with
 | none =>
   have h0 : er ≠ 0 := he.1 rfl
   refine wV (aN encG.eq_1 h0) k30 ?_
   simp [go_sem, foundL, insL]
 | some L =>
   have h0 : er = 0 := by
    by_cases h : er = 0
    ·exact h
    ·cases he.2 h
   subst h0
   obtain ⟨kn, rfl, hL, k39⟩ := hf _ rfl
   have k31 := f31 g kn L k39 (by omega)
   have hmap : (insL ordF L).map msgF = insL ordM ((foundL (some L)).map msgF) := insL_map (cf := ordF) (cg := ordM) (f := msgF) (fun x y => rfl) L
   have hIl : (insL ordF L).length <= 819200000 := by rw [(insL_perm ordF L).length_eq]; exact hL
   rw [<- hmap]
   obtain ⟨I, hI⟩ : ∃ I, insL ordF L = I := ⟨_, rfl⟩
   rw [hI] at k31 hIl ⊢
   simp only [encG] at k31
   refine z_l [(5, .sv (.one (.int .i64 0))), (4, .sv (.one .nil)), (2, .sv (.one (.bx (encG g)))), (1, .sv (.one (.int .i64 kn)))] ?_ ?_
   ·refine wV encG.eq_1 k30 ?_
    refine z_m ?_
    simp [go_sem, encG]
   refine z_l [(7, .sv (.one .nil)), (5, .sv (.one (.int .i64 0))), (4, .sv (.one .nil)), (2, .sv (.one (.bx (encG g)))), (1, .sv (.one (.int .i64 kn)))] ?_ ?_
   ·refine wN ?_
    refine z_m ?_
    simp [go_sem]
   refine z_l [(8, .sv (.one (.ow 3 (I.map encFd)))), (7, .sv (.one .nil)), (5, .sv (.one (.int .i64 0))), (4, .sv (.one .nil))] ?_ ?_
   ·refine wV encG.eq_1 k31 ?_
    refine z_m ?_
    simp [go_sem]
   refine wN ?_
   refine z_k (fun n e => ∃ (j : Nat) (A : List Msg), j + n = I.length /\ (I.take j).map msgF = A /\ e = [(9, .sv (.one (.int .i64 j))), (8, .sv (.one (.ow 3 (I.map encFd)))), (7, .sv (.one (.ow 2 (A.map encMs)))), (5, .sv (.one (.int .i64 0))), (4, .sv (.one .nil))]) I.length _ ⟨0, [], by simp, by simp, rfl⟩ (by simp [go_sem]) ?_
   rintro n e ⟨j, A, hj, hA, rfl⟩
   by_cases hlt : j < I.length
   ·obtain ⟨x, hx⟩ : ∃ x, I[j] = x := ⟨_, rfl⟩
    have hst := map_take_succ msgF hlt hx
    rw [hA] at hst
    have hAl : A.length <= j := by
     rw [<- hA, List.length_map, List.length_take]
     omega
    have hap := appendOk_ms (l := A) (x := msgF x) (by omega)
    simp only [encMs, msgF] at hap
    refine wX (aN hlt <| aN hx <| aN encFd.eq_1 hap) ?_
    refine z_j (n - 1) _ (by omega) ⟨j + 1, _, by omega, hst, rfl⟩ ?_
    simp [go_sem, encFd, encMs, msgF]
   ·have hjl : I.take j = I := List.take_of_length_le (by omega)
    rw [hjl] at hA
    subst hA
    refine wX hlt ?_
    simp [go_sem]
theorem f20 (g : Glob) (k : Int) (m : Msg) (hs : Small g) : Impl Tryz.prog 20 [.ag (encG g), .one (.int .i64 k), .ag (encMs m)] (.tup [.one (resP (pathR g k m).1), .one (.int .i64 (pathR g k m).2)]) := by
 have k30 := f30 g k hs
 have he := srch_err g k
 have hf := fun L (h : (srchR g k).1 = some L) => f39r g k hs (L := L) h
 unfold pathR
 rw [is_msg]
 obtain ⟨⟨r, er⟩, hr⟩ : ∃ r, srchR g k = r := ⟨_, rfl⟩
 rw [hr] at k30 he hf ⊢
 dsimp only at k30 he hf ⊢
 simp only [encG] at k30
 refine impl_v ?_
 refine z_l [(7, .sv (.one (.int .i64 0))), (6, .sv (.one .nil)), (5, .sv (.one (.bx (encMs m)))), (3, .sv (.one (.bx (encG g)))), (1, .sv (.one (.int .i64 k)))] ?_ ?_
 ·refine wX (aN encG.eq_1 encMs.eq_1) ?_
  refine z_m ?_
  simp [go_sem, encG, encMs]
 cases r with
 | none =>
   have h0 : er ≠ 0 := he.1 rfl
   refine wV (aN encG.eq_1 h0) k30 ?_
   simp [go_sem, resP]
 | some L =>
   have h0 : er = 0 := by
    by_cases h : er = 0
    ·exact h
    ·cases he.2 h
   subst h0
   obtain ⟨kn, rfl, hL, k39⟩ := hf _ rfl
   simp only [encG] at k39
   refine z_l [(7, .sv (.one (.int .i64 0))), (6, .sv (.one .nil)), (5, .sv (.one (.bx (encMs m)))), (3, .sv (.one (.bx (encG g)))), (1, .sv (.one (.int .i64 kn)))] ?_ ?_
   ·refine wV encG.eq_1 k30 ?_
    refine z_m ?_
    simp [go_sem, encG]
   refine z_l [(9, .sv (.one (.ow 3 (L.map encFd)))), (7, .sv (.one (.int .i64 0))), (6, .sv (.one .nil)), (5, .sv (.one (.bx (encMs m))))] ?_ ?_
   ·refine wV encG.eq_1 k39 ?_
    refine z_m ?_
    simp [go_sem]
   refine wN ?_
   refine z_k (fun n e => ∃ j : Nat, j + n = L.length /\ (∀ x ∈ L.take j, isM m x = false) /\ e = [(10, .sv (.one (.int .i64 j))), (9, .sv (.one (.ow 3 (L.map encFd)))), (7, .sv (.one (.int .i64 0))), (6, .sv (.one .nil)), (5, .sv (.one (.bx (encMs m))))]) L.length _ ⟨0, by simp, by simp, rfl⟩ (by simp [go_sem]) ?_
   rintro n e ⟨j, hj, h0, rfl⟩
   by_cases hlt : j < L.length
   ·obtain ⟨x, hx⟩ : ∃ x, L[j] = x := ⟨_, rfl⟩
    cases hm : isM m x with
    | true =>
      have hfind : L.find? (isM m) = some x := by
       rw [List.find?_eq_some_iff_append]
       refine ⟨hm, L.take j, L.drop (j + 1), ?_, fun y hy => by simp [h0 y hy]⟩
       rw [<- hx, <- List.drop_eq_getElem_cons hlt, List.take_append_drop]
      unfold isM at hm
      have hm2 : (x.peer == m.peer) = true /\ (x.label == m.label) = true := by simpa using hm
      have e1 : x.peer = m.peer := by simpa using hm2.1
      have e2 : x.label = m.label := by simpa using hm2.2
      refine wX (aN hlt <| aN hx <| aN encFd.eq_1 <| aN encMs.eq_1 <| aN e1 e2) ?_
      simp [go_sem, resP, hfind]
    | false =>
      have hmm := hm
      unfold isM at hm
      refine wX (aN hlt <| aN hx <| aN encFd.eq_1 <| aN encMs.eq_1 hm) ?_
      refine z_j (n - 1) _ (by omega) ⟨j + 1, by omega, ?_, rfl⟩ ?_
      ·intro y hy
       rw [List.take_succ_eq_append_getElem hlt, List.mem_append, List.mem_singleton] at hy
       rcases hy with hy | rfl
       ·exact h0 y hy
       ·rw [hx]
        exact hmm
      ·simp [go_sem, encMs]
   ·have hjl : L.take j = L := List.take_of_length_le (by omega)
    rw [hjl] at h0
    have hnone : L.find? (isM m) = none := by
     rw [List.find?_eq_none]
     intro x hx
     rw [h0 x hx]
     simp
    refine wX hlt ?_
    simp [go_sem, resP, hnone]
def encU (c : Int) : List DV := [.int .u8 c]
def wordZ (g : Glob) : List Int -> Int -> Int
 | [], s => s
 | c :: cs, s => match outI g s with
   | [] => s
   | x :: xs => match (x :: xs)[(c.tmod ((x :: xs).length : Nat)).toNat]? with
     | some y => wordZ g cs y.to
     | none => s
theorem outN_out (g : Glob) (s : Int) : (outN g.edges s).map (fun i => g.edges.getD i default) = outI g s := outN_map g.edges s
theorem word_nil {g : Glob} {s : Int} (h : outI g s = []) (cs : List Int) : wordV g cs s = [] /\ wordZ g cs s = s := by
 cases cs with
 | nil => exact ⟨rfl, rfl⟩
 | cons c cs =>
   unfold wordV wordZ
   rw [h]
   exact ⟨rfl, rfl⟩
theorem word_cons {g : Glob} {s c : Int} {cs : List Int} {y : Edg} {k : Nat} (hk : (c.tmod ((outI g s).length : Nat)).toNat = k) (hy : (outI g s)[k]? = some y) : wordV g (c :: cs) s = y.act :: wordV g cs y.to /\ wordZ g (c :: cs) s = wordZ g cs y.to := by
 unfold wordV wordZ
 cases h : outI g s with
 | nil =>
   rw [h] at hy
   simp at hy
 | cons x xs =>
   rw [h] at hk hy
   dsimp only
   rw [hk, hy]
   cases cs <;> exact ⟨rfl, rfl⟩
theorem f23 (g : Glob) (cs : List Int) (hs : Small g) (hc : ∀ c ∈ cs, 0 <= c /\ c < 256) (hl : cs.length <= 1000) : Impl Tryz.prog 23 [.ag (encG g), .one (.sl (cs.map encU))] (.tup [.one (.ow 3 ((wordV g cs g.start).map encI)), .one (.int .i64 (wordZ g cs g.start))]) := by
 have hel := hs.edges
 have k41 := fun s => f41 g s hs
 obtain ⟨W, hW⟩ : ∃ W, wordV g cs g.start = W := ⟨_, rfl⟩
 obtain ⟨Z, hZ⟩ : ∃ Z, wordZ g cs g.start = Z := ⟨_, rfl⟩
 rw [hW, hZ]
 simp only [encG] at k41
 refine impl_v ?_
 refine z_l [(5, .sv (.one (.int .i64 0))), (4, .sv (.one .nil)), (2, .sv (.one (.bx (encG g)))), (1, .sv (.one (.sl (cs.map encU))))] ?_ ?_
 ·refine wX encG.eq_1 ?_
  refine z_m ?_
  simp [go_sem, encG]
 refine z_l [(6, .sv (.one (.ow 3 (([] : List Inter).map encI)))), (5, .sv (.one (.int .i64 0))), (4, .sv (.one .nil)), (2, .sv (.one (.bx (encG g)))), (1, .sv (.one (.sl (cs.map encU))))] ?_ ?_
 ·refine wN ?_
  refine z_m ?_
  simp [go_sem]
 refine z_l [(7, .sv (.one (.int .i64 g.start))), (6, .sv (.one (.ow 3 (([] : List Inter).map encI)))), (5, .sv (.one (.int .i64 0))), (4, .sv (.one .nil)), (2, .sv (.one (.bx (encG g)))), (1, .sv (.one (.sl (cs.map encU))))] ?_ ?_
 ·refine wX encG.eq_1 ?_
  refine z_m ?_
  simp [go_sem, encG]
 refine wN ?_
 refine z_k (fun n e => ∃ (i : Nat) (A : List Inter) (s : Int), i + n = cs.length /\ A ++ wordV g (cs.drop i) s = W /\ wordZ g (cs.drop i) s = Z /\ A.length <= i /\ e = [(8, .sv (.one (.int .i64 i))), (7, .sv (.one (.int .i64 s))), (6, .sv (.one (.ow 3 (A.map encI)))), (5, .sv (.one (.int .i64 0))), (4, .sv (.one .nil)), (2, .sv (.one (.bx (encG g)))), (1, .sv (.one (.sl (cs.map encU))))]) cs.length _ ⟨0, [], g.start, by simp, by simpa using hW, by simpa using hZ, by simp, rfl⟩ (by simp [go_sem]) ?_
 rintro n e ⟨i, A, s, hi, hA, hB, hAl, rfl⟩
 by_cases hlt : i < cs.length
 rotate_left
 ·have hd : cs.drop i = [] := List.drop_eq_nil_of_le (by omega)
  rw [hd] at hA hB
  have hA2 : A = W := by simpa [wordV] using hA
  have hB2 : s = Z := by simpa [wordZ] using hB
  subst hA2 hB2
  refine wX hlt ?_
  simp [go_sem]
 obtain ⟨c, hcc⟩ : ∃ c, cs[i] = c := ⟨_, rfl⟩
 obtain ⟨hc0, hc1⟩ := hc c (hcc ▸ List.getElem_mem hlt)
 have k41s := k41 s
 have hom := outN_out g s
 have hol := outN_len g.edges s
 have holt := outN_lt (es := g.edges) (s := s)
 obtain ⟨O, hO⟩ : ∃ O, outN g.edges s = O := ⟨_, rfl⟩
 rw [hO] at k41s hom hol holt
 rw [List.drop_eq_getElem_cons hlt, hcc] at hA hB
 cases hOc : O with
 | nil =>
   subst hOc
   obtain ⟨e1, e2⟩ := word_nil (g := g) (s := s) (by rw [<- hom]; rfl) (c :: cs.drop (i + 1))
   rw [e1] at hA
   rw [e2] at hB
   have hA2 : A = W := by simpa using hA
   subst hA2 hB
   simp only [List.map_nil] at k41s
   refine wV (aN hlt encG.eq_1) k41s ?_
   simp [go_sem]
 | cons o0 O0 =>
   have hOpos : 0 < O.length := by rw [hOc]; simp
   have hne : ¬ (O.length : Int) = 0 := by omega
   have hOn : ¬ O = [] := by rw [hOc]; simp
   have hne2 : ((O.length : Int) == 0) = false := by simpa using hne
   have hlen : (outI g s).length = O.length := by rw [<- hom, List.length_map]
   obtain ⟨kk, hkk⟩ : ∃ kk : Nat, c.tmod (O.length : Int) = kk := ⟨(c.tmod (O.length : Int)).toNat, by have := Int.tmod_nonneg (O.length : Int) hc0; omega⟩
   have hkl : kk < O.length := by
    have := Int.tmod_lt_of_pos c (show (0 : Int) < O.length by omega)
    omega
   obtain ⟨nx, hnx⟩ : ∃ n, O[kk] = n := ⟨_, rfl⟩
   have hnl : nx < g.edges.length := hnx ▸ holt _ (List.getElem_mem hkl)
   obtain ⟨x, hx⟩ : ∃ x, g.edges[nx] = x := ⟨_, rfl⟩
   have hy : (outI g s)[kk]? = some x := by
    rw [<- hom, List.getElem?_map, List.getElem?_eq_getElem hkl, hnx]
    simp [List.getD_eq_getElem?_getD, List.getElem?_eq_getElem hnl, hx]
   obtain ⟨e1, e2⟩ := word_cons (cs := cs.drop (i + 1)) (k := kk) (by rw [hlen, hkk, Int.toNat_natCast]) hy
   rw [e1] at hA
   rw [e2] at hB
   clear hOc
   have hap := okI_of (els := A.map encI) (news := [encI x.act]) (fun e he => ⟨x.act, List.mem_singleton.1 he⟩) (by simp; omega)
   simp only [encI] at hap
   have hwr : IntKind.i64.wrap c = c := z_h (by omega) (by omega)
   refine z_l [(8, .sv (.one (.int .i64 i))), (7, .sv (.one (.int .i64 s))), (6, .sv (.one (.ow 3 (A.map encI)))), (5, .sv (.one (.int .i64 0))), (4, .sv (.one .nil)), (2, .sv (.one (.bx (encG g)))), (1, .sv (.one (.sl (cs.map encU))))] ?_ ?_
   ·refine wX hlt ?_
    refine z_m ?_
    simp [go_sem]
   refine wV (aN hlt <| aN hcc <| aN encU.eq_1 <| aN encG.eq_1 <| aN encK.eq_1 <| aN hne <| aN hOn <| aN hne2 <| aN hwr <| aN hkk <| aN hkl <| aN hnx <| aN hnl <| aN hx <| aN encEd.eq_1 hap) k41s ?_
   refine z_j (n - 1) _ (by omega) ⟨i + 1, A ++ [x.act], x.to, by omega, by rw [List.append_assoc]; exact hA, hB, by simp; omega, rfl⟩ ?_
   simp [go_sem, encG, encI]
end Go.Av
