/- Part of a proof. -/
import Derived.Test.YticeobjphcmggaaGreatDoorAvR
import Derived.Test.YticeobjphcmggaaGreatDoorB11
set_option linter.unusedVariables false
set_option linter.unusedSimpArgs false
set_option maxHeartbeats 64000000
set_option maxRecDepth 8000
namespace Go.Av
open Go Go.RowKit Go.Proofs
set_option maxHeartbeats 64000000
def kQ (K : Env -> Prop) (Q : Exit -> Env -> Prop) : Exit -> Env -> Prop := fun x e' => match x with | .normal => K e' | x => Q x e'
theorem awp_seqk {P : Program} {a b : AC} {Q : Exit -> Env -> Prop} {e : Env} (h : ∀ K : Env -> Prop, (∀ e, awp P b Q e -> K e) -> awp P a (kQ K Q) e) : awp P (.seq a b) Q e := .inl (h _ fun _ h => h)
theorem kQ_normal {K : Env -> Prop} {Q : Exit -> Env -> Prop} {e : Env} (h : K e) : kQ K Q .normal e := h
variable {ok : Int -> Prop} {R : Int -> Int -> Bool}
theorem sym_before {lt : Int -> Int -> Bool} (hR : OrdR ok lt R) {x y : List Int} (hox : ∀ z ∈ x, ok z) (hoy : ∀ z ∈ y, ok z) (hsx : Srt R x) (hsy : Srt R y) {K i : Nat} (hi : i <= x.length) (hiK : i <= K)
  (h1 : i = K - y.length \/ ∃ a b, 0 < i /\ x[i - 1]? = some a /\ y[K - i]? = some b /\ R a b = true) (h2 : i = K \/ i = x.length \/ ∃ a b, 0 < K - i /\ y[K - i - 1]? = some a /\ x[i]? = some b /\ R a b = true) :
  ∀ u ∈ x.take i ++ y.take (K - i), ∀ v ∈ x.drop i ++ y.drop (K - i), R u v = true := by
 have pw : ∀ {l : List Int}, Srt R l -> ∀ (n : Nat), ∀ u ∈ l.take n, ∀ v ∈ l.drop n, R u v = true := by
  intro l hs n u hu v hv
  have : Srt R (l.take n ++ l.drop n) := by rw [List.take_append_drop]; exact hs
  exact (srt_append.1 this).2.2 u hu v hv
 intro u hu v hv
 rcases List.mem_append.1 hu with hu | hu
 ·rcases List.mem_append.1 hv with hv | hv
  ·exact pw hsx i u hu v hv
  ·rcases h1 with h1 | ⟨a, b, h0, ha, hb, hab⟩
   ·by_cases hK : y.length <= K
    ·rw [List.drop_eq_nil_of_le (by omega)] at hv; cases hv
    ·rw [show i = 0 by omega] at hu; simp at hu
   ·obtain ⟨ha1, ha2⟩ := List.getElem?_eq_some_iff.1 ha
    obtain ⟨hb1, hb2⟩ := List.getElem?_eq_some_iff.1 hb
    have hoa : ok a := ha2 ▸ hox _ (List.getElem_mem _)
    have hob : ok b := hb2 ▸ hoy _ (List.getElem_mem _)
    have e1 := srt_before hR hox hsx hob ha1 (ha2 ▸ hab) u (by rw [show i - 1 + 1 = i by omega]; exact hu)
    have hou : ok u := hox u (List.mem_of_mem_take hu)
    exact srt_behind hR hoy hsy hou hb1 (hb2 ▸ e1) v hv
 ·rcases List.mem_append.1 hv with hv | hv
  ·rcases h2 with h2 | h2 | ⟨a, b, h0, ha, hb, hab⟩
   ·rw [h2] at hu; simp at hu
   ·rw [h2] at hv; simp at hv
   ·obtain ⟨ha1, ha2⟩ := List.getElem?_eq_some_iff.1 ha
    obtain ⟨hb1, hb2⟩ := List.getElem?_eq_some_iff.1 hb
    have hoa : ok a := ha2 ▸ hoy _ (List.getElem_mem _)
    have hob : ok b := hb2 ▸ hox _ (List.getElem_mem _)
    have e1 := srt_before hR hoy hsy hob ha1 (ha2 ▸ hab) u (by rw [show K - i - 1 + 1 = K - i by omega]; exact hu)
    have hou : ok u := hoy u (List.mem_of_mem_take hu)
    exact srt_behind hR hox hsx hou hb1 (hb2 ▸ e1) v hv
  ·exact pw hsy (K - i) u hu v hv
theorem f124 {g : FuncId} {caps : List DV} {cm : Int -> Int -> Int} (hg : CmpFn g caps ok cm) (hR : OrdR ok (ltOf cm) R) : ∀ (n : Nat) (p x y s : List Int), x.length + y.length <= n -> SymM g caps ok cm R p x y s
 | 0, p, x, y, s, hn => fun hx => (hx (List.eq_nil_of_length_eq_zero (by omega))).elim
 | n + 1, p, x, y, s, hn => by
   by_cases hx1 : x.length = 1
   ·obtain ⟨e, rfl⟩ := List.length_eq_one_iff.1 hx1
    exact sym_left hg hR p y s e
   intro hx hy hl hox hoy hnd hsx hsy hcr
   have hx2 : 2 <= x.length := by have := List.length_pos_iff.2 hx; omega
   by_cases hy1 : y.length = 1
   ·obtain ⟨e, rfl⟩ := List.length_eq_one_iff.1 hy1
    exact sym_right hg hR p x s e hx2 hx hy hl hox hoy hnd hsx hsy hcr
   have hy2 : 2 <= y.length := by have := List.length_pos_iff.2 hy; omega
   refine implM_intro z124.f z124.b rfl z124.r z124.n z124.t z124.d (shape_ints (by simp [isort_len]; omega)) (closed_ints _) (by simp) (by simp) fun v0 => ?_
   simp only [slotsOf]
   conv => arg 2; reduce
   obtain ⟨a, ha⟩ : ∃ a, a = p.length := ⟨_, rfl⟩
   obtain ⟨m, hm⟩ : ∃ m, m = p.length + x.length := ⟨_, rfl⟩
   obtain ⟨b, hb⟩ : ∃ b, b = p.length + x.length + y.length := ⟨_, rfl⟩
   rw [<- hb, <- hm, <- ha]
   obtain ⟨L, hL⟩ : ∃ L, L = p ++ (x ++ (y ++ s)) := ⟨_, rfl⟩
   obtain ⟨Y, hY⟩ : ∃ Y, Y = p ++ (isort R (x ++ y) ++ s) := ⟨_, rfl⟩
   rw [<- hL, <- hY]
   have hlen : L.length = p.length + (x.length + (y.length + s.length)) := by rw [hL]; simp
   rw [<- hL] at hl
   obtain ⟨K, hK⟩ : ∃ K, K = (x.length + y.length) / 2 := ⟨_, rfl⟩
   obtain ⟨T, hT⟩ : ∃ T, T = a + b := ⟨_, rfl⟩
   have e1 : ((a : Int) + b) = (T : Int) := by omega
   have e2 := u64_small (x := (T : Int)) (by omega) (by omega)
   have e3 := fdiv_two T
   have e4 : T / 2 = a + K := by omega
   rw [e4] at e3
   have e5 := u64_small (x := ((a + K : Nat) : Int)) (by omega) (by omega)
   obtain ⟨md, hmd⟩ : ∃ md, md = a + K := ⟨_, rfl⟩
   rw [<- hmd] at e3 e5
   have hn1 : ¬ ((m : Int) - a = 1) := by omega
   have hn2 : ¬ ((b : Int) - m = 1) := by omega
   refine z_l [(1000000, .eqv 0 v0), (0, .sv (.one (.ow 1 (L.map encN)))), (1, .sv (.one (.int .i64 a))), (2, .sv (.one (.int .i64 m))), (3, .sv (.one (.int .i64 b))), (4, .sv (.one (.fn g caps)))] ?_ ?_
   ·refine wX hn1 ?_
    refine z_m ?_
    simp [go_sem]
   refine z_l [(1000000, .eqv 0 v0), (0, .sv (.one (.ow 1 (L.map encN)))), (1, .sv (.one (.int .i64 a))), (2, .sv (.one (.int .i64 m))), (3, .sv (.one (.int .i64 b))), (4, .sv (.one (.fn g caps)))] ?_ ?_
   ·refine wX hn2 ?_
    refine z_m ?_
    simp [go_sem]
   refine z_l [(18, .sv (.one (.int .i64 md))), (1000000, .eqv 0 v0), (0, .sv (.one (.ow 1 (L.map encN)))), (1, .sv (.one (.int .i64 a))), (2, .sv (.one (.int .i64 m))), (3, .sv (.one (.int .i64 b))), (4, .sv (.one (.fn g caps)))] ?_ ?_
   ·refine wX (aN e1 <| aN e2 <| aN e3 e5) ?_
    refine z_m ?_
    simp [go_sem]
   refine z_l [(19, .sv (.one (.int .i64 (md + m : Nat)))), (18, .sv (.one (.int .i64 md))), (1000000, .eqv 0 v0), (0, .sv (.one (.ow 1 (L.map encN)))), (1, .sv (.one (.int .i64 a))), (2, .sv (.one (.int .i64 m))), (3, .sv (.one (.int .i64 b))), (4, .sv (.one (.fn g caps)))] ?_ ?_
   ·refine wN ?_
    refine z_m ?_
    simp [go_sem]
   obtain ⟨N, hN⟩ : ∃ N, N = md + m := ⟨_, rfl⟩
   rw [<- hN]
   refine z_l [(19, .sv (.one (.int .i64 N))), (18, .sv (.one (.int .i64 md))), (1000000, .eqv 0 v0), (0, .sv (.one (.ow 1 (L.map encN)))), (1, .sv (.one (.int .i64 a))), (2, .sv (.one (.int .i64 m))), (3, .sv (.one (.int .i64 b))), (4, .sv (.one (.fn g caps)))] ?_ ?_
   ·refine wN ?_
    refine z_m ?_
    simp [go_sem]
   obtain ⟨i0, hi0⟩ : ∃ i0, i0 = K - y.length := ⟨_, rfl⟩
   obtain ⟨j0, hj0⟩ : ∃ j0, j0 = min K x.length := ⟨_, rfl⟩
   refine z_l [(21, .sv (.one (.int .i64 (a + j0 : Nat)))), (20, .sv (.one (.int .i64 (a + i0 : Nat)))), (19, .sv (.one (.int .i64 N))), (18, .sv (.one (.int .i64 md))), (1000000, .eqv 0 v0), (0, .sv (.one (.ow 1 (L.map encN)))), (1, .sv (.one (.int .i64 a))), (2, .sv (.one (.int .i64 m))), (3, .sv (.one (.int .i64 b))), (4, .sv (.one (.fn g caps)))] ?_ ?_
   ·by_cases hAB : md < m
    ·refine wX hAB ?_
     refine z_m ?_
     simp [go_sem]
     omega
    ·refine wX hAB ?_
     refine z_m ?_
     simp [go_sem]
     omega
   refine z_l [(22, .sv (.one (.int .i64 ((N : Int) - 1)))), (21, .sv (.one (.int .i64 (a + j0 : Nat)))), (20, .sv (.one (.int .i64 (a + i0 : Nat)))), (19, .sv (.one (.int .i64 N))), (18, .sv (.one (.int .i64 md))), (1000000, .eqv 0 v0), (0, .sv (.one (.ow 1 (L.map encN)))), (1, .sv (.one (.int .i64 a))), (2, .sv (.one (.int .i64 m))), (3, .sv (.one (.int .i64 b))), (4, .sv (.one (.fn g caps)))] ?_ ?_
   ·refine wN ?_
    refine z_m ?_
    simp [go_sem]
   refine awp_seqk fun KK hKK => ?_
   refine z_C ?_
   refine z_k (fun q e' => ∃ (i j : Nat), i0 <= i /\ i <= j /\ j <= j0 /\ q = j - i /\ (i = K - y.length \/ ∃ a b, 0 < i /\ x[i - 1]? = some a /\ y[K - i]? = some b /\ R a b = true) /\ (j = j0 \/ ∃ a b, 0 < K - j /\ y[K - j - 1]? = some a /\ x[j]? = some b /\ R a b = true) /\
    e' = [(22, .sv (.one (.int .i64 ((N : Int) - 1)))), (21, .sv (.one (.int .i64 (a + j : Nat)))), (20, .sv (.one (.int .i64 (a + i : Nat)))), (19, .sv (.one (.int .i64 N))), (18, .sv (.one (.int .i64 md))), (1000000, .eqv 0 v0), (0, .sv (.one (.ow 1 (L.map encN)))), (1, .sv (.one (.int .i64 a))), (2, .sv (.one (.int .i64 m))), (3, .sv (.one (.int .i64 b))), (4, .sv (.one (.fn g caps)))]) (j0 - i0) _ ⟨i0, j0, by omega, by omega, by omega, rfl, .inl hi0, .inl rfl, rfl⟩ (by simp [go_sem]) ?_
   rintro q e' ⟨i, j, hi1, hij, hj1, hq, hi2, hj2, rfl⟩
   by_cases hlt : i < j
   ·obtain ⟨c, hc⟩ : ∃ c, c = (i + j) / 2 := ⟨_, rfl⟩
    have hcx : c < x.length := by omega
    have hcy : K - 1 - c < y.length := by omega
    obtain ⟨v, hv⟩ : ∃ v, v = x[c] := ⟨_, rfl⟩
    obtain ⟨u, hu⟩ : ∃ u, u = y[K - 1 - c] := ⟨_, rfl⟩
    have hov : ok v := by rw [hv]; exact hox _ (List.getElem_mem _)
    have hou : ok u := by rw [hu]; exact hoy _ (List.getElem_mem _)
    have g1 : L[a + c]? = some v := by
     rw [hL, ha, List.getElem?_append_right (by omega), show p.length + c - p.length = c by omega, List.getElem?_append_left hcx, List.getElem?_eq_getElem hcx, hv]
    have g2 : L[m + (K - 1 - c)]? = some u := by
     rw [hL, hm, List.getElem?_append_right (by omega), List.getElem?_append_right (by omega), show p.length + x.length + (K - 1 - c) - p.length - x.length = K - 1 - c by omega, List.getElem?_append_left hcy, List.getElem?_eq_getElem hcy, hu]
    have gx : x[c]? = some v := by rw [List.getElem?_eq_getElem hcx, hv]
    have gy : y[K - 1 - c]? = some u := by rw [List.getElem?_eq_getElem hcy, hu]
    have k1 := hg.call u v hou hov
    have ff1 : (((a + i : Nat) : Int) + ((a + j : Nat) : Int)) = ((2 * a + (i + j) : Nat) : Int) := by omega
    have ff2 := u64_small (x := ((2 * a + (i + j) : Nat) : Int)) (by omega) (by omega)
    have ff3 := fdiv_two (2 * a + (i + j))
    have ff4 : (2 * a + (i + j)) / 2 = a + c := by omega
    rw [ff4] at ff3
    have ff5 := u64_small (x := ((a + c : Nat) : Int)) (by omega) (by omega)
    have ff6 : ((N : Int) - 1 - ((a + c : Nat) : Int)).toNat = m + (K - 1 - c) := by omega
    have ff7 : (0 : Int) <= (N : Int) - 1 - ((a + c : Nat) : Int) := by omega
    obtain ⟨I, hI⟩ : ∃ I, I = a + i := ⟨_, rfl⟩
    obtain ⟨J, hJ⟩ : ∃ J, J = a + j := ⟨_, rfl⟩
    obtain ⟨H, hH⟩ : ∃ H, H = a + c := ⟨_, rfl⟩
    obtain ⟨G, hG⟩ : ∃ G, G = m + (K - 1 - c) := ⟨_, rfl⟩
    obtain ⟨T2, hT2⟩ : ∃ T2, T2 = 2 * a + (i + j) := ⟨_, rfl⟩
    rw [<- hI, <- hJ, <- hT2] at ff1
    rw [<- hT2] at ff2 ff3
    rw [<- hH] at ff3 ff5 g1 ff6 ff7
    rw [<- hG] at g2 ff6
    rw [<- hI, <- hJ]
    have hIJ : I < J := by omega
    by_cases hcm : cm u v < 0
    ·have huv : R u v = true := hR.sub u v hou hov (by simp [ltOf, hcm])
     refine wV (aN hIJ <| aN ff1 <| aN ff2 <| aN ff3 <| aN ff5 <| aN ff6 <| aN ff7 <| aN g1 <| aN g2 <| aN hcm encN.eq_1) k1 ?_
     refine z_j (c - i) _ (by omega) ⟨i, c, hi1, by omega, by omega, rfl, hi2, .inr ⟨u, v, by omega, by rw [show K - c - 1 = K - 1 - c by omega]; exact gy, gx, huv⟩, rfl⟩ ?_
     simp [go_sem, hH, hI]
    ·have hvu : R v u = true := hcr v (by rw [hv]; exact List.getElem_mem _) u (by rw [hu]; exact List.getElem_mem _) (by simp [ltOf, hcm])
     refine wV (aN hIJ <| aN ff1 <| aN ff2 <| aN ff3 <| aN ff5 <| aN ff6 <| aN ff7 <| aN g1 <| aN g2 <| aN hcm encN.eq_1) k1 ?_
     refine z_j (j - (c + 1)) _ (by omega) ⟨c + 1, j, by omega, by omega, hj1, rfl, .inr ⟨v, u, by omega, by rw [show c + 1 - 1 = c by omega]; exact gx, by rw [show K - (c + 1) = K - 1 - c by omega]; exact gy, hvu⟩, hj2, rfl⟩ ?_
     simp [go_sem, hH, hJ]
     omega
   ·have hij : i = j := by omega
    subst hij
    have hbef := sym_before hR hox hoy hsx hsy (K := K) (i := i) (by omega) (by omega) hi2 (by
     rcases hj2 with h1 | h1
     ·omega
     ·exact .inr (.inr h1))
    refine wN ?_
    refine kQ_normal (hKK _ ?_)
    obtain ⟨x1, hx1d⟩ : ∃ x1, x1 = x.take i := ⟨_, rfl⟩
    obtain ⟨x2, hx2d⟩ : ∃ x2, x2 = x.drop i := ⟨_, rfl⟩
    obtain ⟨y1, hy1d⟩ : ∃ y1, y1 = y.take (K - i) := ⟨_, rfl⟩
    obtain ⟨y2, hy2d⟩ : ∃ y2, y2 = y.drop (K - i) := ⟨_, rfl⟩
    rw [<- hx1d, <- hx2d, <- hy1d, <- hy2d] at hbef
    have hxx : x = x1 ++ x2 := by rw [hx1d, hx2d, List.take_append_drop]
    have hyy : y = y1 ++ y2 := by rw [hy1d, hy2d, List.take_append_drop]
    have lx1 : x1.length = i := by rw [hx1d, List.length_take]; omega
    have lx2 : x2.length = x.length - i := by rw [hx2d, List.length_drop]
    have ly1 : y1.length = K - i := by rw [hy1d, List.length_take]; omega
    have ly2 : y2.length = y.length - (K - i) := by rw [hy2d, List.length_drop]
    clear hx1d hx2d hy1d hy2d
    have hsx' := srt_append.1 (hxx ▸ hsx)
    have hsy' := srt_append.1 (hyy ▸ hsy)
    have ho4 : ∀ z ∈ x1 ++ x2 ++ (y1 ++ y2), ok z := fun z hz => by
     rw [<- hxx, <- hyy] at hz
     rcases List.mem_append.1 hz with hz | hz
     ·exact hox z hz
     ·exact hoy z hz
    have hnd4 : (x1 ++ x2 ++ (y1 ++ y2)).Nodup := by rw [<- hxx, <- hyy]; exact hnd
    have hsplit := merge_split hR ho4 hnd4 hbef
    rw [<- hxx, <- hyy] at hsplit
    obtain ⟨E, hE⟩ : ∃ E, E = m + (K - i) := ⟨_, rfl⟩
    refine z_l [(24, .sv (.one (.int .i64 E))), (20, .sv (.one (.int .i64 (a + i : Nat)))), (18, .sv (.one (.int .i64 md))), (1000000, .eqv 0 v0), (0, .sv (.one (.ow 1 (L.map encN)))), (1, .sv (.one (.int .i64 a))), (2, .sv (.one (.int .i64 m))), (3, .sv (.one (.int .i64 b))), (4, .sv (.one (.fn g caps)))] ?_ ?_
    ·refine wN ?_
     refine z_m ?_
     simp [go_sem]
     omega
    obtain ⟨S, hS⟩ : ∃ S, S = a + i := ⟨_, rfl⟩
    rw [<- hS]
    obtain ⟨L2, hL2⟩ : ∃ L2, L2 = p ++ (x1 ++ (y1 ++ (x2 ++ (y2 ++ s)))) := ⟨_, rfl⟩
    have hL2l : L2.length = L.length := by rw [hL2, hL, hxx, hyy]; simp; omega
    refine z_l [(24, .sv (.one (.int .i64 E))), (20, .sv (.one (.int .i64 S))), (18, .sv (.one (.int .i64 md))), (1000000, .eqv 0 v0), (0, .sv (.one (.ow 1 (L2.map encN)))), (1, .sv (.one (.int .i64 a))), (2, .sv (.one (.int .i64 m))), (3, .sv (.one (.int .i64 b))), (4, .sv (.one (.fn g caps)))] ?_ ?_
    ·by_cases hc1 : S < m
     ·by_cases hc2 : m < E
      ·have k1 := f144 L hl S m E hc1 hc2 (by omega) g caps
       have hrot := rotF_ok (E - S) (p ++ x1) x2 y1 (y2 ++ s) m (m - S) (E - m) (by omega) (by omega) (by simp; omega) (by omega) (by omega) (by omega)
       have e9 : p ++ x1 ++ (x2 ++ (y1 ++ (y2 ++ s))) = L := by rw [hL, hxx, hyy]; simp
       rw [e9] at hrot
       have e25 : p ++ x1 ++ (y1 ++ (x2 ++ (y2 ++ s))) = L2 := by rw [hL2]; simp
       rw [hrot, e25] at k1
       refine wV (aN hc1 hc2) k1 ?_
       refine z_m ?_
       simp [go_sem]
      ·have h0 : y1 = [] := List.eq_nil_of_length_eq_zero (by omega)
       have e9 : L2 = L := by rw [hL2, hL, hxx, hyy, h0]; simp
       refine wX (aN hc1 hc2) ?_
       refine z_m ?_
       simp [go_sem, e9]
     ·have h0 : x2 = [] := List.eq_nil_of_length_eq_zero (by omega)
      have e9 : L2 = L := by rw [hL2, hL, hxx, hyy, h0]; simp
      refine wX hc1 ?_
      refine z_m ?_
      simp [go_sem, e9]
    obtain ⟨L3, hL3⟩ : ∃ L3, L3 = p ++ (isort R (x1 ++ y1) ++ (x2 ++ (y2 ++ s))) := ⟨_, rfl⟩
    have hL3l : L3.length = L.length := by rw [hL3, hL, hxx, hyy]; simp [isort_len]; omega
    refine z_l [(24, .sv (.one (.int .i64 E))), (18, .sv (.one (.int .i64 md))), (1000000, .eqv 0 v0), (0, .sv (.one (.ow 1 (L3.map encN)))), (3, .sv (.one (.int .i64 b))), (4, .sv (.one (.fn g caps)))] ?_ ?_
    ·by_cases hc1 : a < S
     ·by_cases hc2 : S < md
      ·have k1 := f124 hg hR n p x1 y1 (x2 ++ (y2 ++ s)) (by omega) (by rintro rfl; simp at lx1; omega) (by rintro rfl; simp at ly1; omega) (by rw [<- hL2]; omega) (fun z hz => ho4 z (by simp [hz])) (fun z hz => ho4 z (by simp [hz])) (hnd4.sublist (List.Sublist.append (List.sublist_append_left x1 x2) (List.sublist_append_left y1 y2))) hsx'.1 hsy'.1 (fun u hu v hv => hcr u (by rw [hxx]; simp [hu]) v (by rw [hyy]; simp [hv]))
       rw [<- hL2, <- hL3, <- ha, show a + x1.length = S by omega, show S + y1.length = md by omega] at k1
       refine wV (aN hc1 hc2) k1 ?_
       refine z_m ?_
       simp [go_sem]
      ·have h0 : y1 = [] := List.eq_nil_of_length_eq_zero (by omega)
       have e9 : L3 = L2 := by rw [hL3, hL2, h0]; simp; exact isort_self hR (fun z hz => ho4 z (by simp [hz])) hsx'.1
       refine wX (aN hc1 hc2) ?_
       refine z_m ?_
       simp [go_sem, e9]
     ·have h0 : x1 = [] := List.eq_nil_of_length_eq_zero (by omega)
      have e9 : L3 = L2 := by rw [hL3, hL2, h0]; simp; exact isort_self hR (fun z hz => ho4 z (by simp [hz])) hsy'.1
      refine wX hc1 ?_
      refine z_m ?_
      simp [go_sem, e9]
    have hYe : Y = p ++ isort R (x1 ++ y1) ++ (isort R (x2 ++ y2) ++ s) := by rw [hY, hsplit]; simp
    by_cases hc1 : md < E
    ·by_cases hc2 : E < b
     ·have k1 := f124 hg hR n (p ++ isort R (x1 ++ y1)) x2 y2 s (by omega) (by rintro rfl; simp at lx2; omega) (by rintro rfl; simp at ly2; omega) (by rw [List.append_assoc, <- hL3]; omega) (fun z hz => ho4 z (by simp [hz])) (fun z hz => ho4 z (by simp [hz])) (hnd4.sublist (List.Sublist.append (List.sublist_append_right x1 x2) (List.sublist_append_right y1 y2))) hsx'.2.1 hsy'.2.1 (fun u hu v hv => hcr u (by rw [hxx]; simp [hu]) v (by rw [hyy]; simp [hv]))
      rw [<- hYe, List.append_assoc, <- hL3, show (p ++ isort R (x1 ++ y1)).length = md by simp [isort_len]; omega, show md + x2.length = E by omega, show E + y2.length = b by omega] at k1
      refine wV (aN hc1 hc2) k1 ?_
      simp [go_sem, endsM]
     ·have h0 : y2 = [] := List.eq_nil_of_length_eq_zero (by omega)
      have e9 : L3 = Y := by rw [hL3, hYe, h0]; simp; exact (isort_self hR (fun z hz => ho4 z (by simp [hz])) hsx'.2.1).symm
      refine wX (aN hc1 hc2) ?_
      simp [go_sem, endsM, e9]
    ·have h0 : x2 = [] := List.eq_nil_of_length_eq_zero (by omega)
     have e9 : L3 = Y := by rw [hL3, hYe, h0]; simp; exact (isort_self hR (fun z hz => ho4 z (by simp [hz])) hsy'.2.1).symm
     refine wX hc1 ?_
     simp [go_sem, endsM, e9]
end Go.Av
