/- Part of a proof. -/
import Derived.Test.YticeobjphcmggaaGreatDoorB08
set_option linter.unusedVariables false
set_option linter.unusedSimpArgs false
set_option maxHeartbeats 64000000
set_option maxRecDepth 8000
namespace Go.Av
open Go Go.RowKit Go.Proofs
variable {ok : Int -> Prop} {lt R : Int -> Int -> Bool}
theorem merge_split (h : OrdR ok lt R) {x1 x2 y1 y2 : List Int} (ho : ∀ z ∈ x1 ++ x2 ++ (y1 ++ y2), ok z) (hn : (x1 ++ x2 ++ (y1 ++ y2)).Nodup) (hab : ∀ u ∈ x1 ++ y1, ∀ v ∈ x2 ++ y2, R u v = true) :
  isort R (x1 ++ x2 ++ (y1 ++ y2)) = isort R (x1 ++ y1) ++ isort R (x2 ++ y2) := by
 refine isort_split h ho hn ?_ hab
 have e1 : (x1 ++ y1 ++ (x2 ++ y2)) = x1 ++ (y1 ++ x2) ++ y2 := by simp
 have e2 : (x1 ++ x2 ++ (y1 ++ y2)) = x1 ++ (x2 ++ y1) ++ y2 := by simp
 rw [e1, e2]
 exact ((List.perm_append_comm (l₁ := y1) (l₂ := x2)).append_left x1).append_right y2
theorem srt_before (h : OrdR ok lt R) {x : List Int} (ho : ∀ z ∈ x, ok z) (hs : Srt R x) {e : Int} (he : ok e) {i : Nat} (hi : i < x.length) (hx : R x[i] e = true) : ∀ z ∈ x.take (i + 1), R z e = true := by
 intro z hz
 obtain ⟨k, hk, rfl⟩ := List.mem_iff_getElem.1 hz
 rw [List.getElem_take]
 rw [List.length_take] at hk
 by_cases e1 : k = i
 ·subst e1; exact hx
 ·exact h.trans _ _ _ (ho _ (List.getElem_mem _)) (ho _ (List.getElem_mem _)) he (List.pairwise_iff_getElem.1 hs k i (by omega) hi (by omega)) hx
theorem srt_behind (h : OrdR ok lt R) {x : List Int} (ho : ∀ z ∈ x, ok z) (hs : Srt R x) {e : Int} (he : ok e) {i : Nat} (hi : i < x.length) (hx : R e x[i] = true) : ∀ z ∈ x.drop i, R e z = true := by
 intro z hz
 obtain ⟨k, hk, rfl⟩ := List.mem_iff_getElem.1 hz
 rw [List.getElem_drop]
 rw [List.length_drop] at hk
 by_cases e1 : k = 0
 ·subst e1; exact hx
 ·exact h.trans _ _ _ he (ho _ (List.getElem_mem _)) (ho _ (List.getElem_mem _)) hx (List.pairwise_iff_getElem.1 hs i (i + k) hi (by omega) (by omega))
theorem u64_small {x : Int} (h0 : 0 <= x) (h : x <= 4000000) : IntKind.u64.wrap x = x := by
 unfold IntKind.wrap
 simp only [IntKind.bits, IntKind.signed, Bool.false_and, Bool.false_eq_true, if_false]
 omega
theorem fdiv_two (n : Nat) : (n : Int).fdiv 2 = ((n / 2 : Nat) : Int) := by
 rw [Int.fdiv_eq_ediv_of_nonneg _ (by decide)]
 omega
end Go.Av
namespace Go.Av
open Go Go.RowKit Go.Proofs
variable {ok : Int -> Prop} {R : Int -> Int -> Bool}
abbrev SymM (g : FuncId) (caps : List DV) (ok : Int -> Prop) (cm : Int -> Int -> Int) (R : Int -> Int -> Bool) (p x y s : List Int) : Prop :=
 x ≠ [] -> y ≠ [] -> (p ++ (x ++ (y ++ s))).length <= 1000000 -> (∀ z ∈ x, ok z) -> (∀ z ∈ y, ok z) -> (x ++ y).Nodup -> Srt R x -> Srt R y -> Crs (ltOf cm) R x y ->
  ImplM Tryz.prog 124 (.ow 1 ((p ++ (x ++ (y ++ s))).map encN)) [.one (.int .i64 p.length), .one (.int .i64 (p.length + x.length : Nat)), .one (.int .i64 (p.length + x.length + y.length : Nat)), .one (.fn g caps)] (.ow 1 ((p ++ (isort R (x ++ y) ++ s)).map encN))
theorem sym_left {g : FuncId} {caps : List DV} {cm : Int -> Int -> Int} (hg : CmpFn g caps ok cm) (hR : OrdR ok (ltOf cm) R) (p y s : List Int) (e : Int) : SymM g caps ok cm R p [e] y s := by
 intro hx hy hl hox hoy hnd hsx hsy hcr
 refine implM_intro Tryz.func124 z124.b rfl z124.r z124.n Tryz.ntmps124 z124.d (shape_ints (by simp [isort_len]; omega)) (closed_ints _) (by simp) (by simp) fun v0 => ?_
 simp only [slotsOf]
 conv => arg 2; reduce
 obtain ⟨a, ha⟩ : ∃ a, a = p.length := ⟨_, rfl⟩
 obtain ⟨b, hb⟩ : ∃ b, b = p.length + [e].length + y.length := ⟨_, rfl⟩
 rw [<- hb, <- ha]
 simp only [List.length_singleton]
 obtain ⟨L, hL⟩ : ∃ L, L = p ++ ([e] ++ (y ++ s)) := ⟨_, rfl⟩
 obtain ⟨Y, hY⟩ : ∃ Y, Y = p ++ (isort R ([e] ++ y) ++ s) := ⟨_, rfl⟩
 rw [<- hL, <- hY]
 have hlen : L.length = p.length + (1 + (y.length + s.length)) := by rw [hL]; simp; omega
 rw [<- hL] at hl
 have hoe : ok e := hox e (by simp)
 have hae : L[a]? = some e := by rw [hL, ha]; exact at_mid _ _ _
 simp only [List.length_singleton] at hb
 repeat' first | refine St.go ?_ | ((with_reducible refine cn ?_ ?_) <;> intro h <;> (try simp at h) <;> try omega) | (refine Ru.go ?_; intro K hK; simp [go_sem]; (try simp (disch := omega) only [wx, z_i]); (first | apply hK | refine ⟨ob, ?_⟩ | refine ⟨hK _ ?_, fun h => ?_⟩ | refine ⟨?_, ?_⟩); all_goals ((try apply hK); clear hK K))
 refine z_k (fun q e' => ∃ (i j : Nat), i <= j /\ j <= y.length /\ q = j - i /\ (∀ z ∈ y.take i, R z e = true) /\ (∀ z ∈ y.drop j, R e z = true) /\ e' = [(11, .sv (.one (.int .i64 (a + 1 + j : Nat)))), (10, .sv (.one (.int .i64 (a + 1 + i : Nat)))), (1000000, .eqv 0 v0), (0, .sv (.one (.ow 1 (L.map encN)))), (1, .sv (.one (.int .i64 a))), (4, .sv (.one (.fn g caps)))]) y.length _ ⟨0, y.length, by omega, by omega, rfl, by simp, by simp, rfl⟩ (by simp [go_sem]; omega) ?_
 rintro q e' ⟨i, j, hij, hj, hq, h1, h2, rfl⟩
 by_cases hlt : i < j
 ·obtain ⟨md, hh⟩ : ∃ md, md = (i + j) / 2 := ⟨_, rfl⟩
  have hhy : md < y.length := by omega
  obtain ⟨v, hv⟩ : ∃ v, v = y[md] := ⟨_, rfl⟩
  have hov : ok v := by rw [hv]; exact hoy _ (List.getElem_mem _)
  have g1 : L[a + 1 + md]? = some v := by
   rw [hL, ha, List.getElem?_append_right (by omega), show p.length + 1 + md - p.length = md + 1 by omega, List.singleton_append, List.getElem?_cons_succ, List.getElem?_append_left hhy, List.getElem?_eq_getElem hhy, hv]
  have k1 := hg.call v e hov hoe
  have e1 : (((a + 1 + i : Nat) : Int) + ((a + 1 + j : Nat) : Int)) = ((2 * (a + 1) + (i + j) : Nat) : Int) := by omega
  have e2 := u64_small (x := ((2 * (a + 1) + (i + j) : Nat) : Int)) (by omega) (by omega)
  have e3 := fdiv_two (2 * (a + 1) + (i + j))
  have e4 : (2 * (a + 1) + (i + j)) / 2 = a + 1 + md := by omega
  rw [e4] at e3
  have e5 := u64_small (x := ((a + 1 + md : Nat) : Int)) (by omega) (by omega)
  obtain ⟨I, hI⟩ : ∃ I, I = a + 1 + i := ⟨_, rfl⟩
  obtain ⟨J, hJ⟩ : ∃ J, J = a + 1 + j := ⟨_, rfl⟩
  obtain ⟨H, hH⟩ : ∃ H, H = a + 1 + md := ⟨_, rfl⟩
  obtain ⟨T, hT⟩ : ∃ T, T = 2 * (a + 1) + (i + j) := ⟨_, rfl⟩
  rw [<- hI, <- hJ, <- hT] at e1
  rw [<- hT] at e2 e3
  rw [<- hH] at e3 e5 g1
  rw [<- hI, <- hJ]
  have hIJ : I < J := by omega
  have hHl : H < L.length := by omega
  by_cases hcm : cm v e < 0
  ·skip
   have q_ := aN hIJ <| aN e1 <| aN e2 <| aN e3 <| aN e5 <| aN g1 <| aN hae <| hcm
   repeat' first | refine St.go ?_ | ((with_reducible refine cn ?_ ?_) <;> intro h <;> (try simp [q_] at h) <;> try omega) | (refine Ru.go ?_; intro K hK; simp [go_sem, encN, q_]; (try simp (disch := omega) only [wx, z_i]); (first | apply hK | ((first | ((try refine .inl ?_); refine ⟨_, by (try intro hc); (repeat' first | exact k1 | exact hc | refine And.intro ?_ ?_ | simp [go_sem, encN, q_]); first | done | omega, ?_⟩) | refine .inr (.inl ⟨_, by (try intro hc); (repeat' first | exact k1 | exact hc | refine And.intro ?_ ?_ | simp [go_sem, encN, q_]); first | done | omega, ?_⟩) | refine .inr (.inr ⟨_, by (try intro hc); (repeat' first | exact k1 | exact hc | refine And.intro ?_ ?_ | simp [go_sem, encN, q_]); first | done | omega, ?_⟩)); first | apply hK | (refine ⟨by simp [go_sem, encN, q_], ?_⟩; first | apply hK | refine ⟨by simp [go_sem, encN, q_], hK _ _ ?_⟩)) | refine ⟨ob, ?_⟩ | refine ⟨hK _ ?_, fun h => ?_⟩ | refine ⟨?_, ?_⟩); all_goals ((try apply hK); clear hK K))
   all_goals try clear q_
   have hve : R v e = true := hR.sub v e hov hoe (by simp [ltOf, hcm])
   refine z_j (j - (md + 1)) _ (by omega) ⟨md + 1, j, by omega, hj, rfl, srt_before hR hoy hsy hoe hhy (hv ▸ hve), h2, rfl⟩ ?_
   simp [go_sem, hH, hJ]
   omega
  ·have hev : R e v = true := hcr e (by simp) v (by rw [hv]; exact List.getElem_mem _) (by simp [ltOf, hcm])
   have q_ := aN hIJ <| aN e1 <| aN e2 <| aN e3 <| aN e5 <| aN g1 <| aN hae <| hcm
   repeat' first | refine St.go ?_ | ((with_reducible refine cn ?_ ?_) <;> intro h <;> (try simp [q_] at h) <;> try omega) | (refine Ru.go ?_; intro K hK; simp [go_sem, encN, q_]; (try simp (disch := omega) only [wx, z_i]); (first | apply hK | ((first | ((try refine .inl ?_); refine ⟨_, by (try intro hc); (repeat' first | exact k1 | exact hc | refine And.intro ?_ ?_ | simp [go_sem, encN, q_]); first | done | omega, ?_⟩) | refine .inr (.inl ⟨_, by (try intro hc); (repeat' first | exact k1 | exact hc | refine And.intro ?_ ?_ | simp [go_sem, encN, q_]); first | done | omega, ?_⟩) | refine .inr (.inr ⟨_, by (try intro hc); (repeat' first | exact k1 | exact hc | refine And.intro ?_ ?_ | simp [go_sem, encN, q_]); first | done | omega, ?_⟩)); first | apply hK | (refine ⟨by simp [go_sem, encN, q_], ?_⟩; first | apply hK | refine ⟨by simp [go_sem, encN, q_], hK _ _ ?_⟩)) | refine ⟨ob, ?_⟩ | refine ⟨hK _ ?_, fun h => ?_⟩ | refine ⟨?_, ?_⟩); all_goals ((try apply hK); clear hK K))
   all_goals try clear q_
   refine z_j (md - i) _ (by omega) ⟨i, md, by omega, by omega, rfl, h1, srt_behind hR hoy hsy hoe hhy (hv ▸ hev), rfl⟩ ?_
   simp [go_sem, hH, hI]
 ·have hij : i = j := by omega
  subst hij
  have hfin : isort R ([e] ++ y) = y.take i ++ e :: y.drop i := by
   refine isort_mid hR (fun z hz => ?_) ?_ ?_ h1 h2
   ·rcases List.mem_append.1 hz with hz | hz
    ·exact hox z hz
    ·exact hoy z hz
   ·refine List.perm_middle.trans ?_
    rw [List.take_append_drop]
    exact .refl _
   ·rw [List.take_append_drop]; exact hsy
  repeat' first | refine St.go ?_ | ((with_reducible refine cn ?_ ?_) <;> intro h <;> (try simp at h) <;> try omega) | (refine Ru.go ?_; intro K hK; simp [go_sem]; (try simp (disch := omega) only [wx, z_i]); (first | apply hK | refine ⟨ob, ?_⟩ | refine ⟨hK _ ?_, fun h => ?_⟩ | refine ⟨?_, ?_⟩); all_goals ((try apply hK); clear hK K))
  refine z_k (fun q e' => ∃ (t : Nat) (D : List Int), t <= i /\ q = i - t /\ D = p ++ (y.take t ++ (e :: (y.drop t ++ s))) /\ e' = [(13, .sv (.one (.int .i64 (a + t : Nat)))), (10, .sv (.one (.int .i64 (a + 1 + i : Nat)))), (1000000, .eqv 0 v0), (0, .sv (.one (.ow 1 (D.map encN))))]) i _ ⟨0, L, by omega, rfl, by rw [hL]; simp, rfl⟩ (by simp [go_sem]) ?_
  rintro q e' ⟨t, D, ht, hq, hD, rfl⟩
  by_cases hlt2 : t < i
  ·obtain ⟨v, hv⟩ : ∃ v, v = y[t] := ⟨_, rfl⟩
   have hdr : y.drop t = v :: y.drop (t + 1) := by rw [hv]; exact List.drop_eq_getElem_cons _
   have htk : y.take (t + 1) = y.take t ++ [v] := by rw [hv]; exact List.take_succ_eq_append_getElem _
   have hDs : D = (p ++ y.take t) ++ e :: v :: (y.drop (t + 1) ++ s) := by
    rw [hD, hdr]
    simp
   have hpl : (p ++ y.take t).length = a + t := by rw [List.length_append, List.length_take, ha]; omega
   have hDl : D.length = L.length := by rw [hD, hlen]; simp; omega
   have g1 : D[a + t]? = some e := by rw [hDs, <- hpl]; exact at_mid _ _ _
   have g2 : D[a + t + 1]? = some v := by
    rw [hDs, <- hpl, List.getElem?_append_right (by omega)]
    simp
   obtain ⟨u, w, v', D1, m1, m2, m3, m4, m5, m6⟩ := swap_facts D (a + t) (a + t + 1) (by omega) (by omega)
   have hsw := swapI_mid (p ++ y.take t) [] (y.drop (t + 1) ++ s) e v
   simp only [List.length_nil, Nat.add_zero, List.nil_append] at hsw
   rw [hpl, <- hDs] at hsw
   obtain ⟨D2, hD2⟩ : ∃ D2, D2 = swapI D (a + t) (a + t + 1) := ⟨_, rfl⟩
   rw [<- hD2] at m6 hsw
   rw [g1] at m1
   rw [g2] at m2
   injection m1 with m1
   injection m2 with m2
   subst m1 m2
   obtain ⟨K, hK⟩ : ∃ K, K = a + t := ⟨_, rfl⟩
   rw [<- hK] at g1 g2 m3 m5 m6 ⊢
   have c1 : ((K : Int) + 1).toNat = K + 1 := by omega
   have hK2 : (K : Int) < ((a + 1 + i : Nat) : Int) - 1 := by omega
   obtain ⟨I, hI⟩ : ∃ I, I = a + 1 + i := ⟨_, rfl⟩
   rw [<- hI] at hK2 ⊢
   have hDl2 : K + 1 < D.length := by omega
   have hDl3 : K < D.length := by omega
   have q_ := aN hK2 <| aN g1 <| aN g2 <| aN m3 <| aN m4 <| aN m5 <| aN m6 <| c1
   repeat' first | refine St.go ?_ | ((with_reducible refine cn ?_ ?_) <;> intro h <;> (try simp [q_] at h) <;> try omega) | (refine Ru.go ?_; intro K hK; simp [go_sem, encN, q_]; (try simp (disch := omega) only [wx, z_i]); (first | apply hK | refine ⟨ob, ?_⟩ | refine ⟨hK _ ?_, fun h => ?_⟩ | refine ⟨?_, ?_⟩); all_goals ((try apply hK); clear hK K))
   all_goals try clear q_
   refine z_j (i - (t + 1)) _ (by omega) ⟨t + 1, D2, by omega, rfl, ?_, rfl⟩ ?_
   ·rw [hsw, htk]
    simp
   ·simp [go_sem, encN, m5, m6]
    omega
  ·have hti : t = i := by omega
   subst hti
   have hDY : D = Y := by rw [hD, hY, hfin]; simp
   subst hDY
   repeat' first | refine St.go ?_ | ((with_reducible refine cn ?_ ?_) <;> intro h <;> (try simp at h) <;> try omega) | (refine Ru.go ?_; intro K hK; simp [go_sem]; (try simp (disch := omega) only [wx, z_i]); (first | apply hK | refine ⟨ob, ?_⟩ | refine ⟨hK _ ?_, fun h => ?_⟩ | refine ⟨?_, ?_⟩); all_goals ((try apply hK); clear hK K))
   simp [go_sem, endsM]
end Go.Av
namespace Go.Av
open Go Go.RowKit Go.Proofs
variable {ok : Int -> Prop} {R : Int -> Int -> Bool}
theorem sym_right {g : FuncId} {caps : List DV} {cm : Int -> Int -> Int} (hg : CmpFn g caps ok cm) (hR : OrdR ok (ltOf cm) R) (p x s : List Int) (e : Int) (hx2 : 2 <= x.length) : SymM g caps ok cm R p x [e] s := by
 intro hx hy hl hox hoy hnd hsx hsy hcr
 refine implM_intro Tryz.func124 z124.b rfl z124.r z124.n Tryz.ntmps124 z124.d (shape_ints (by simp [isort_len]; omega)) (closed_ints _) (by simp) (by simp) fun v0 => ?_
 simp only [slotsOf]
 conv => arg 2; reduce
 obtain ⟨a, ha⟩ : ∃ a, a = p.length := ⟨_, rfl⟩
 obtain ⟨m, hm⟩ : ∃ m, m = p.length + x.length := ⟨_, rfl⟩
 rw [<- hm, <- ha]
 simp only [List.length_singleton]
 obtain ⟨L, hL⟩ : ∃ L, L = p ++ (x ++ ([e] ++ s)) := ⟨_, rfl⟩
 obtain ⟨Y, hY⟩ : ∃ Y, Y = p ++ (isort R (x ++ [e]) ++ s) := ⟨_, rfl⟩
 rw [<- hL, <- hY]
 have hlen : L.length = p.length + (x.length + (1 + s.length)) := by rw [hL]; simp; omega
 rw [<- hL] at hl
 have hoe : ok e := hoy e (by simp)
 have hme : L[m]? = some e := by rw [hL, hm, <- List.length_append, <- List.append_assoc, List.singleton_append]; exact at_mid _ _ _
 have hn1 : ¬ ((m : Int) - a = 1) := by omega
 repeat' first | refine St.go ?_ | ((with_reducible refine cn ?_ ?_) <;> intro h <;> (try simp [hn1] at h) <;> try omega) | (refine Ru.go ?_; intro K hK; simp [go_sem, hn1]; (try simp (disch := omega) only [wx, z_i]); (first | apply hK | refine ⟨ob, ?_⟩ | refine ⟨hK _ ?_, fun h => ?_⟩ | refine ⟨?_, ?_⟩); all_goals ((try apply hK); clear hK K))
 refine z_k (fun q e' => ∃ (i j : Nat), i <= j /\ j <= x.length /\ q = j - i /\ (∀ z ∈ x.take i, R z e = true) /\ (∀ z ∈ x.drop j, R e z = true) /\ e' = [(15, .sv (.one (.int .i64 (a + j : Nat)))), (14, .sv (.one (.int .i64 (a + i : Nat)))), (1000000, .eqv 0 v0), (0, .sv (.one (.ow 1 (L.map encN)))), (2, .sv (.one (.int .i64 m))), (4, .sv (.one (.fn g caps)))]) x.length _ ⟨0, x.length, by omega, by omega, rfl, by simp, by simp, rfl⟩ (by simp [go_sem]; omega) ?_
 rintro q e' ⟨i, j, hij, hj, hq, h1, h2, rfl⟩
 by_cases hlt : i < j
 ·obtain ⟨md, hmd⟩ : ∃ md, md = (i + j) / 2 := ⟨_, rfl⟩
  have hmx : md < x.length := by omega
  obtain ⟨v, hv⟩ : ∃ v, v = x[md] := ⟨_, rfl⟩
  have hov : ok v := by rw [hv]; exact hox _ (List.getElem_mem _)
  have g1 : L[a + md]? = some v := by
   rw [hL, ha, List.getElem?_append_right (by omega), show p.length + md - p.length = md by omega, List.getElem?_append_left hmx, List.getElem?_eq_getElem hmx, hv]
  have k1 := hg.call e v hoe hov
  have e1 : (((a + i : Nat) : Int) + ((a + j : Nat) : Int)) = ((2 * a + (i + j) : Nat) : Int) := by omega
  have e2 := u64_small (x := ((2 * a + (i + j) : Nat) : Int)) (by omega) (by omega)
  have e3 := fdiv_two (2 * a + (i + j))
  have e4 : (2 * a + (i + j)) / 2 = a + md := by omega
  rw [e4] at e3
  have e5 := u64_small (x := ((a + md : Nat) : Int)) (by omega) (by omega)
  obtain ⟨I, hI⟩ : ∃ I, I = a + i := ⟨_, rfl⟩
  obtain ⟨J, hJ⟩ : ∃ J, J = a + j := ⟨_, rfl⟩
  obtain ⟨H, hH⟩ : ∃ H, H = a + md := ⟨_, rfl⟩
  obtain ⟨T, hT⟩ : ∃ T, T = 2 * a + (i + j) := ⟨_, rfl⟩
  rw [<- hI, <- hJ, <- hT] at e1
  rw [<- hT] at e2 e3
  rw [<- hH] at e3 e5 g1
  rw [<- hI, <- hJ]
  have hIJ : I < J := by omega
  by_cases hcm : cm e v < 0
  ·have hev : R e v = true := hR.sub e v hoe hov (by simp [ltOf, hcm])
   have q_ := aN hIJ <| aN e1 <| aN e2 <| aN e3 <| aN e5 <| aN g1 <| aN hme <| hcm
   repeat' first | refine St.go ?_ | ((with_reducible refine cn ?_ ?_) <;> intro h <;> (try simp [q_] at h) <;> try omega) | (refine Ru.go ?_; intro K hK; simp [go_sem, encN, q_]; (try simp (disch := omega) only [wx, z_i]); (first | apply hK | ((try refine .inl ?_); refine ⟨_, by (repeat' first | exact k1 | refine And.intro ?_ ?_ | simp [go_sem, encN, q_]); first | done | omega, ?_⟩; first | apply hK | (refine ⟨by simp [go_sem, encN, q_], ?_⟩; first | apply hK | refine ⟨by simp [go_sem, encN, q_], hK _ _ ?_⟩)) | refine ⟨ob, ?_⟩ | refine ⟨hK _ ?_, fun h => ?_⟩ | refine ⟨?_, ?_⟩); all_goals ((try apply hK); clear hK K))
   all_goals try clear q_
   refine z_j (md - i) _ (by omega) ⟨i, md, by omega, by omega, rfl, h1, srt_behind hR hox hsx hoe hmx (hv ▸ hev), rfl⟩ ?_
   simp [go_sem, hH, hI]
  ·have hve : R v e = true := hcr v (by rw [hv]; exact List.getElem_mem _) e (by simp) (by simp [ltOf, hcm])
   have q_ := aN hIJ <| aN e1 <| aN e2 <| aN e3 <| aN e5 <| aN g1 <| aN hme <| hcm
   repeat' first | refine St.go ?_ | ((with_reducible refine cn ?_ ?_) <;> intro h <;> (try simp [q_] at h) <;> try omega) | (refine Ru.go ?_; intro K hK; simp [go_sem, encN, q_]; (try simp (disch := omega) only [wx, z_i]); (first | apply hK | ((try refine .inl ?_); refine ⟨_, by (repeat' first | exact k1 | refine And.intro ?_ ?_ | simp [go_sem, encN, q_]); first | done | omega, ?_⟩; first | apply hK | (refine ⟨by simp [go_sem, encN, q_], ?_⟩; first | apply hK | refine ⟨by simp [go_sem, encN, q_], hK _ _ ?_⟩)) | refine ⟨ob, ?_⟩ | refine ⟨hK _ ?_, fun h => ?_⟩ | refine ⟨?_, ?_⟩); all_goals ((try apply hK); clear hK K))
   all_goals try clear q_
   refine z_j (j - (md + 1)) _ (by omega) ⟨md + 1, j, by omega, hj, rfl, srt_before hR hox hsx hoe hmx (hv ▸ hve), h2, rfl⟩ ?_
   simp [go_sem, hH, hJ]
   omega
 ·have hij : i = j := by omega
  subst hij
  have hfin : isort R (x ++ [e]) = x.take i ++ e :: x.drop i := by
   refine isort_mid hR (fun z hz => ?_) ?_ ?_ h1 h2
   ·rcases List.mem_append.1 hz with hz | hz
    ·exact hox z hz
    ·exact hoy z hz
   ·refine List.perm_middle.trans ?_
    rw [List.take_append_drop]
    exact (List.perm_append_singleton e x).symm
   ·rw [List.take_append_drop]; exact hsx
  repeat' first | refine St.go ?_ | ((with_reducible refine cn ?_ ?_) <;> intro h <;> (try simp at h) <;> try omega) | (refine Ru.go ?_; intro K hK; simp [go_sem]; (try simp (disch := omega) only [wx, z_i]); (first | apply hK | refine ⟨ob, ?_⟩ | refine ⟨hK _ ?_, fun h => ?_⟩ | refine ⟨?_, ?_⟩); all_goals ((try apply hK); clear hK K))
  refine z_k (fun q e' => ∃ (t : Nat) (D : List Int), i <= t /\ t <= x.length /\ q = t - i /\ D = p ++ (x.take t ++ (e :: (x.drop t ++ s))) /\ e' = [(17, .sv (.one (.int .i64 (a + t : Nat)))), (14, .sv (.one (.int .i64 (a + i : Nat)))), (1000000, .eqv 0 v0), (0, .sv (.one (.ow 1 (D.map encN))))]) (x.length - i) _ ⟨x.length, L, by omega, by omega, rfl, by rw [hL]; simp, rfl⟩ (by simp [go_sem]; omega) ?_
  rintro q e' ⟨t, D, ht, htx, hq, hD, rfl⟩
  by_cases hlt2 : i < t
  ·obtain ⟨t, rfl⟩ : ∃ t', t = t' + 1 := ⟨t - 1, by omega⟩
   obtain ⟨v, hv⟩ : ∃ v, v = x[t] := ⟨_, rfl⟩
   have hdr : x.drop t = v :: x.drop (t + 1) := by rw [hv]; exact List.drop_eq_getElem_cons _
   have htk : x.take (t + 1) = x.take t ++ [v] := by rw [hv]; exact List.take_succ_eq_append_getElem _
   have hDs : D = (p ++ x.take t) ++ v :: e :: (x.drop (t + 1) ++ s) := by
    rw [hD, htk]
    simp
   have hpl : (p ++ x.take t).length = a + t := by rw [List.length_append, List.length_take, ha]; omega
   have hDl : D.length = L.length := by rw [hDs, hlen]; simp; omega
   have g1 : D[a + t]? = some v := by rw [hDs, <- hpl]; exact at_mid _ _ _
   have g2 : D[a + t + 1]? = some e := by
    rw [hDs, <- hpl, List.getElem?_append_right (by omega)]
    simp
   obtain ⟨u, w, v', D1, m1, m2, m3, m4, m5, m6⟩ := swap_facts D (a + t + 1) (a + t) (by omega) (by omega)
   have hsw := swapI_back (p ++ x.take t) (x.drop (t + 1) ++ s) v e
   rw [hpl, <- hDs] at hsw
   obtain ⟨D2, hD2⟩ : ∃ D2, D2 = swapI D (a + t + 1) (a + t) := ⟨_, rfl⟩
   rw [<- hD2] at m6 hsw
   rw [g2] at m1
   rw [g1] at m2
   injection m1 with m1
   injection m2 with m2
   subst m1 m2
   have hat : ((a + (t + 1) : Nat) : Int) = ((a + t : Nat) : Int) + 1 := by omega
   rw [hat]
   obtain ⟨K, hK⟩ : ∃ K, K = a + t := ⟨_, rfl⟩
   rw [<- hK] at g1 g2 m3 m5 m6 ⊢
   have c1 : ((K : Int) + 1).toNat = K + 1 := by omega
   obtain ⟨I, hI⟩ : ∃ I, I = a + i := ⟨_, rfl⟩
   rw [<- hI]
   have hK2 : (I : Int) < (K : Int) + 1 := by omega
   have q_ := aN hK2 <| aN g1 <| aN g2 <| aN m3 <| aN m4 <| aN m5 <| aN m6 <| c1
   repeat' first | refine St.go ?_ | ((with_reducible refine cn ?_ ?_) <;> intro h <;> (try simp [q_] at h) <;> try omega) | (refine Ru.go ?_; intro K hK; simp [go_sem, encN, q_]; (try simp (disch := omega) only [wx, z_i]); (first | apply hK | refine ⟨ob, ?_⟩ | refine ⟨hK _ ?_, fun h => ?_⟩ | refine ⟨?_, ?_⟩); all_goals ((try apply hK); clear hK K))
   all_goals try clear q_
   refine z_j (t - i) _ (by omega) ⟨t, D2, by omega, by omega, rfl, ?_, rfl⟩ ?_
   ·rw [hsw, hdr]
    simp
   ·simp [go_sem, encN, m5, m6, hK, hI]
  ·have hti : t = i := by omega
   subst hti
   have hDY : D = Y := by rw [hD, hY, hfin]; simp
   subst hDY
   repeat' first | refine St.go ?_ | ((with_reducible refine cn ?_ ?_) <;> intro h <;> (try simp at h) <;> try omega) | (refine Ru.go ?_; intro K hK; simp [go_sem]; (try simp (disch := omega) only [wx, z_i]); (first | apply hK | refine ⟨ob, ?_⟩ | refine ⟨hK _ ?_, fun h => ?_⟩ | refine ⟨?_, ?_⟩); all_goals ((try apply hK); clear hK K))
   simp [go_sem, endsM]
end Go.Av
