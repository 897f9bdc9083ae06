/- Part of a proof. -/
import Derived.Test.YticeobjphcmggaaGreatDoorAvR
import Derived.Test.YticeobjphcmggaaGreatDoorB10
set_option linter.unusedVariables false
set_option linter.unusedSimpArgs false
set_option maxHeartbeats 64000000
set_option maxRecDepth 8000
namespace Go.Av
open Go Go.RowKit Go.Proofs
set_option maxHeartbeats 64000000
variable {ok : Int -> Prop} {R : Int -> Int -> Bool}
theorem sym_right {g : FuncId} {caps : List DV} {cm : Int -> Int -> Int} (hg : CmpFn g caps ok cm) (hR : OrdR ok (ltOf cm) R) (p x s : List Int) (e : Int) (hx2 : 2 <= x.length) : SymM g caps ok cm R p x [e] s := by
 intro hx hy hl hox hoy hnd hsx hsy hcr
 refine implM_intro z124.f z124.b rfl z124.r z124.n z124.t z124.d (shape_ints (by simp [isort_len]; omega)) (closed_ints _) (by simp) (by simp) fun v0 => ?_
 simp only [slotsOf]
 conv => arg 2; reduce
 obtain ⟨a, ha⟩ : ∃ a, a = p.length := ⟨_, rfl⟩
 obtain ⟨m, hm⟩ : ∃ m, m = p.length + x.length := ⟨_, rfl⟩
 rw [<- hm, <- ha]
 simp only [List.length_singleton]
 obtain ⟨L, hL⟩ : ∃ L, L = p ++ (x ++ ([e] ++ s)) := ⟨_, rfl⟩
 obtain ⟨Y, hY⟩ : ∃ Y, Y = p ++ (isort R (x ++ [e]) ++ s) := ⟨_, rfl⟩
 rw [<- hL, <- hY]
 have hlen : L.length = p.length + (x.length + (1 + s.length)) := by rw [hL]; simp; omega
 rw [<- hL] at hl
 have hoe : ok e := hoy e (by simp)
 have hme : L[m]? = some e := by rw [hL, hm, <- List.length_append, <- List.append_assoc, List.singleton_append]; exact at_mid _ _ _
 have hn1 : ¬ ((m : Int) - a = 1) := by omega
 refine wX hn1 ?_
 refine z_k (fun q e' => ∃ (i j : Nat), i <= j /\ j <= x.length /\ q = j - i /\ (∀ z ∈ x.take i, R z e = true) /\ (∀ z ∈ x.drop j, R e z = true) /\ e' = [(15, .sv (.one (.int .i64 (a + j : Nat)))), (14, .sv (.one (.int .i64 (a + i : Nat)))), (1000000, .eqv 0 v0), (0, .sv (.one (.ow 1 (L.map encN)))), (2, .sv (.one (.int .i64 m))), (4, .sv (.one (.fn g caps)))]) x.length _ ⟨0, x.length, by omega, by omega, rfl, by simp, by simp, rfl⟩ (by simp [go_sem]; omega) ?_
 rintro q e' ⟨i, j, hij, hj, hq, h1, h2, rfl⟩
 by_cases hlt : i < j
 ·obtain ⟨md, hmd⟩ : ∃ md, md = (i + j) / 2 := ⟨_, rfl⟩
  have hmx : md < x.length := by omega
  obtain ⟨v, hv⟩ : ∃ v, v = x[md] := ⟨_, rfl⟩
  have hov : ok v := by rw [hv]; exact hox _ (List.getElem_mem _)
  have g1 : L[a + md]? = some v := by
   rw [hL, ha, List.getElem?_append_right (by omega), show p.length + md - p.length = md by omega, List.getElem?_append_left hmx, List.getElem?_eq_getElem hmx, hv]
  have k1 := hg.call e v hoe hov
  have e1 : (((a + i : Nat) : Int) + ((a + j : Nat) : Int)) = ((2 * a + (i + j) : Nat) : Int) := by omega
  have e2 := u64_small (x := ((2 * a + (i + j) : Nat) : Int)) (by omega) (by omega)
  have e3 := fdiv_two (2 * a + (i + j))
  have e4 : (2 * a + (i + j)) / 2 = a + md := by omega
  rw [e4] at e3
  have e5 := u64_small (x := ((a + md : Nat) : Int)) (by omega) (by omega)
  obtain ⟨I, hI⟩ : ∃ I, I = a + i := ⟨_, rfl⟩
  obtain ⟨J, hJ⟩ : ∃ J, J = a + j := ⟨_, rfl⟩
  obtain ⟨H, hH⟩ : ∃ H, H = a + md := ⟨_, rfl⟩
  obtain ⟨T, hT⟩ : ∃ T, T = 2 * a + (i + j) := ⟨_, rfl⟩
  rw [<- hI, <- hJ, <- hT] at e1
  rw [<- hT] at e2 e3
  rw [<- hH] at e3 e5 g1
  rw [<- hI, <- hJ]
  have hIJ : I < J := by omega
  by_cases hcm : cm e v < 0
  ·have hev : R e v = true := hR.sub e v hoe hov (by simp [ltOf, hcm])
   refine wV (aN hIJ <| aN e1 <| aN e2 <| aN e3 <| aN e5 <| aN g1 <| aN hme <| aN hcm encN.eq_1) k1 ?_
   refine z_j (md - i) _ (by omega) ⟨i, md, by omega, by omega, rfl, h1, srt_behind hR hox hsx hoe hmx (hv ▸ hev), rfl⟩ ?_
   simp [go_sem, hH, hI]
  ·have hve : R v e = true := hcr v (by rw [hv]; exact List.getElem_mem _) e (by simp) (by simp [ltOf, hcm])
   refine wV (aN hIJ <| aN e1 <| aN e2 <| aN e3 <| aN e5 <| aN g1 <| aN hme <| aN hcm encN.eq_1) k1 ?_
   refine z_j (j - (md + 1)) _ (by omega) ⟨md + 1, j, by omega, hj, rfl, srt_before hR hox hsx hoe hmx (hv ▸ hve), h2, rfl⟩ ?_
   simp [go_sem, hH, hJ]
   omega
 ·have hij : i = j := by omega
  subst hij
  have hfin : isort R (x ++ [e]) = x.take i ++ e :: x.drop i := by
   refine isort_mid hR (fun z hz => ?_) ?_ ?_ h1 h2
   ·rcases List.mem_append.1 hz with hz | hz
    ·exact hox z hz
    ·exact hoy z hz
   ·refine List.perm_middle.trans ?_
    rw [List.take_append_drop]
    exact (List.perm_append_singleton e x).symm
   ·rw [List.take_append_drop]; exact hsx
  refine wN ?_
  refine z_k (fun q e' => ∃ (t : Nat) (D : List Int), i <= t /\ t <= x.length /\ q = t - i /\ D = p ++ (x.take t ++ (e :: (x.drop t ++ s))) /\ e' = [(17, .sv (.one (.int .i64 (a + t : Nat)))), (14, .sv (.one (.int .i64 (a + i : Nat)))), (1000000, .eqv 0 v0), (0, .sv (.one (.ow 1 (D.map encN))))]) (x.length - i) _ ⟨x.length, L, by omega, by omega, rfl, by rw [hL]; simp, rfl⟩ (by simp [go_sem]; omega) ?_
  rintro q e' ⟨t, D, ht, htx, hq, hD, rfl⟩
  by_cases hlt2 : i < t
  ·obtain ⟨t, rfl⟩ : ∃ t', t = t' + 1 := ⟨t - 1, by omega⟩
   obtain ⟨v, hv⟩ : ∃ v, v = x[t] := ⟨_, rfl⟩
   have hdr : x.drop t = v :: x.drop (t + 1) := by rw [hv]; exact List.drop_eq_getElem_cons _
   have htk : x.take (t + 1) = x.take t ++ [v] := by rw [hv]; exact List.take_succ_eq_append_getElem _
   have hDs : D = (p ++ x.take t) ++ v :: e :: (x.drop (t + 1) ++ s) := by
    rw [hD, htk]
    simp
   have hpl : (p ++ x.take t).length = a + t := by rw [List.length_append, List.length_take, ha]; omega
   have hDl : D.length = L.length := by rw [hDs, hlen]; simp; omega
   have g1 : D[a + t]? = some v := by rw [hDs, <- hpl]; exact at_mid _ _ _
   have g2 : D[a + t + 1]? = some e := by
    rw [hDs, <- hpl, List.getElem?_append_right (by omega)]
    simp
   obtain ⟨u, w, v', D1, m1, m2, m3, m4, m5, m6⟩ := swap_facts D (a + t + 1) (a + t) (by omega) (by omega)
   have hsw := swapI_back (p ++ x.take t) (x.drop (t + 1) ++ s) v e
   rw [hpl, <- hDs] at hsw
   obtain ⟨D2, hD2⟩ : ∃ D2, D2 = swapI D (a + t + 1) (a + t) := ⟨_, rfl⟩
   rw [<- hD2] at m6 hsw
   rw [g2] at m1
   rw [g1] at m2
   injection m1 with m1
   injection m2 with m2
   subst m1 m2
   have hat : ((a + (t + 1) : Nat) : Int) = ((a + t : Nat) : Int) + 1 := by omega
   rw [hat]
   obtain ⟨K, hK⟩ : ∃ K, K = a + t := ⟨_, rfl⟩
   rw [<- hK] at g1 g2 m3 m5 m6 ⊢
   have c1 : ((K : Int) + 1).toNat = K + 1 := by omega
   obtain ⟨I, hI⟩ : ∃ I, I = a + i := ⟨_, rfl⟩
   rw [<- hI]
   have hK2 : (I : Int) < (K : Int) + 1 := by omega
   refine wX (aN hK2 <| aN g1 <| aN g2 <| aN m3 <| aN m4 <| aN m5 <| aN m6 <| aN encN.eq_1 c1) ?_
   refine z_j (t - i) _ (by omega) ⟨t, D2, by omega, by omega, rfl, ?_, rfl⟩ ?_
   ·rw [hsw, hdr]
    simp
   ·simp [go_sem, encN, m5, m6, hK, hI]
  ·have hti : t = i := by omega
   subst hti
   have hDY : D = Y := by rw [hD, hY, hfin]; simp
   subst hDY
   refine wN ?_
   simp [go_sem, endsM]
end Go.Av
